/-
  Chapter 22: the law's walk: who may not be; nil; memory.
  (Texts put together: Lo.)
-/
import Derived.Test.YtdmjegelcdghlaaGreatGKn
import Derived.Deep.MidRow
namespace Go.Proofs.YtdmjegelcdghlaaGreat.Vw
open Go.RowKit Go.Maps
set_option linter.unusedVariables false
set_option linter.unusedSimpArgs false
set_option maxRecDepth 100000

theorem stand_same (W : World) : (binOp .neq 39 (.agg #[.int .i64 0, .int .i64 0, .int .i64 0, .int .i64 0, .int .i64 0, .int .i64 0, .int .i64 0, .int .i64 0, .int .i64 0, .int .i64 0]) (.agg #[.int .i64 0, .int .i64 0, .int .i64 0, .int .i64 0, .int .i64 0, .int .i64 0, .int .i64 0, .int .i64 0, .int .i64 0, .int .i64 0])).run Tryz.prog W = .ok (.bool false) W := by kernel_rfl
theorem kept_field (a0 a1 a2 a3 a4 : Value) (W : World) : (Instr.field 47 (.agg #[a0, a1, a2, a3, a4]) 0).run Tryz.prog W = .ok a0 W := by kernel_rfl
theorem blk_range {W : World} {b : Nat} {t : TypeId} {cs : List Value} (h : Blk W b t cs) : W.rangeAt b 0 cs := fun j v hj => by rw [Nat.zero_add]; exact h.cell j hj
theorem op_size (o : Op) (u : Value) : (Tryz.prog.info? 26).map (·.size) = some (opC o u).length := by kernel_rfl
def RN (g : Bool) (id n : Int) (c : Lb) (W : World) (rv : Value) (e : Int) : Prop := (g = false ∧ rv = .pointer none ∧ e = 1) ∨ (g = true ∧ e = 0 ∧ ∃ p, rv = .pointer (some ⟨p, 0, none⟩) ∧ (1 ≤ n ∧ n ≤ 7 ∧ 0 ≤ id ∧ id < n) ∧ RV 0 c W p (newR id.toNat n.toNat))
theorem RN.below {g : Bool} {id n e : Int} {c : Lb} {W W' : World} {rv : Value} (h : RN g id n c W rv e) (hb : Below W.heap.size W W') : RN g id n c W' rv e := by
  rcases h with h | ⟨h1, h2, p, h3, h4, h5⟩
  · exact .inl h
  · exact .inr ⟨h1, h2, p, h3, h4, h5.below (Lx.refl _ _) hb⟩
theorem RN.dec {g : Bool} {id n e : Int} {c : Lb} {W : World} {rv : Value} (h : RN g id n c W rv e) : decide (e = 0) = g := by
  rcases h with ⟨rfl, _, rfl⟩ | ⟨rfl, rfl, _⟩ <;> rfl
theorem RN.beq {g : Bool} {id n e : Int} {c : Lb} {W : World} {rv : Value} (h : RN g id n c W rv e) : (e == 0) = g := by
  rcases h with ⟨rfl, _, rfl⟩ | ⟨rfl, rfl, _⟩ <;> rfl
theorem RN.ptr {g : Bool} {id n e : Int} {c : Lb} {W : World} {rv : Value} (h : RN g id n c W rv e) (w : World) : (binOp .neq 27 rv (.pointer none)).run Tryz.prog w = .ok (.bool g) w := by
  rcases h with ⟨rfl, rfl, _⟩ | ⟨rfl, _, p, rfl, _⟩ <;> kernel_rfl
theorem RN.grd {g : Bool} {id n e : Int} {c : Lb} {W : World} {rv : Value} (h : RN g id n c W rv e) (w : World) : (eqGuard .neq 27 (.tmp 59) (.const (.pointer none)) rv (.pointer none)).run Tryz.prog w = .ok () w := by
  rcases h with ⟨rfl, rfl, _⟩ | ⟨rfl, _, p, rfl, _⟩ <;> kernel_rfl
theorem bool_same (g : Bool) (W : World) : (binOp .neq 4 (.bool g) (.bool g)).run Tryz.prog W = .ok (.bool false) W := by cases g <;> kernel_rfl
set_option maxHeartbeats 8000000 in
theorem viewNone_walk (id n : Int) (o : Op) (ua : Option Addr) (uc : Nat) (w : World) (hu : RdS w (.slice ua o.c.sco.length uc) o.c.sco) (hc : CmS o.c) (hl : o.c.sco.length ≤ 8796093022208) :
    Calls Tryz.prog 3 #[.int .i64 id, .int .i64 n, .agg #[.int .i64 o.ed, .int .i64 o.sq, .int .i64 o.lo, .int .i64 o.c.kd, .string ⟨o.c.fam.toArray⟩, .int .i64 o.c.ser, .int .i64 o.c.tok, .string ⟨o.c.cli.toArray⟩, .string ⟨o.c.usr.toArray⟩, .slice ua o.c.sco.length uc, .string ⟨o.c.red.toArray⟩, .string ⟨o.c.cha.toArray⟩, .string ⟨o.c.met.toArray⟩, .string ⟨o.c.ver.toArray⟩, .bool o.c.rf, .int .i64 o.c.edg]] w fun e w' => e = .returned (.bool true) ∧ Below w.heap.size w w' := by
  obtain ⟨w0, hw0⟩ : ∃ w0, w0 = w.alloc (.cells #[.int .i64 o.ed, .int .i64 o.sq, .int .i64 o.lo, .int .i64 o.c.kd, .string ⟨o.c.fam.toArray⟩, .int .i64 o.c.ser, .int .i64 o.c.tok, .string ⟨o.c.cli.toArray⟩, .string ⟨o.c.usr.toArray⟩, .slice ua o.c.sco.length uc, .string ⟨o.c.red.toArray⟩, .string ⟨o.c.cha.toArray⟩, .string ⟨o.c.met.toArray⟩, .string ⟨o.c.ver.toArray⟩, .bool o.c.rf, .int .i64 o.c.edg] 26) := ⟨_, rfl⟩
  obtain ⟨b0, hb0⟩ : ∃ b0, b0 = w.heap.size := ⟨_, rfl⟩
  have hbw : Below w.heap.size w w0 := by rw [hw0]; exact (Below.refl _ _).alloc (Nat.le_refl _) _
  have hbo : Blk w0 b0 26 [.int .i64 o.ed, .int .i64 o.sq, .int .i64 o.lo, .int .i64 o.c.kd, .string ⟨o.c.fam.toArray⟩, .int .i64 o.c.ser, .int .i64 o.c.tok, .string ⟨o.c.cli.toArray⟩, .string ⟨o.c.usr.toArray⟩, .slice ua o.c.sco.length uc, .string ⟨o.c.red.toArray⟩, .string ⟨o.c.cha.toArray⟩, .string ⟨o.c.met.toArray⟩, .string ⟨o.c.ver.toArray⟩, .bool o.c.rf, .int .i64 o.c.edg] := by rw [hw0, hb0]; exact Blk.new w 26 _
  have HO := Lib.hid (And.intro hbo (And.intro hbw (And.intro hu (And.intro hc hl))))
  have HW0 := Lib.hid (And.intro hw0 hb0)
  clear hu hc hl hbw hbo hw0 hb0
  go_enter Tryz.func3, Tryz.ntmps3
  go_upto_region 1 with fail
  rw [← HW0.out.1, ← HW0.out.2]
  generalize Value.agg #[.int .i64 o.ed, .int .i64 o.sq, .int .i64 o.lo, .int .i64 o.c.kd, .string ⟨o.c.fam.toArray⟩, .int .i64 o.c.ser, .int .i64 o.c.tok, .string ⟨o.c.cli.toArray⟩, .string ⟨o.c.usr.toArray⟩, .slice ua o.c.sco.length uc, .string ⟨o.c.red.toArray⟩, .string ⟨o.c.cha.toArray⟩, .string ⟨o.c.met.toArray⟩, .string ⟨o.c.ver.toArray⟩, .bool o.c.rf, .int .i64 o.c.edg] = ov0
  have HN0 := Lib.hid (NW.refl w0)
  generalize (fun _ => 300 : Lb) = c0 at HN0
  clear HW0
  go_cut [7, 8] from 27 (fun rv ev wx => ∃ (g : Bool) (e : Int) (c : Lb), ev = .int .i64 e ∧ RN g id n c wx rv e ∧ NW c w0 wx ∧ Below w0.heap.size w0 wx ∧ (g = true ↔ (1 ≤ n ∧ n ≤ 7 ∧ 0 ≤ id ∧ id < n)))
  case first =>
    by_cases hg : 1 ≤ n ∧ n ≤ 7 ∧ 0 ≤ id ∧ id < n
    case neg =>
      have HNW := Lib.hid (new_bad id n w0 hg)
      have HG := Lib.hid hg
      clear hg
      go_wp2_with fail
      refine HNW.out.mono ?_
      rintro e w1 ⟨rfl, rfl⟩
      go_wp2_with fail
      go_meet
      case rel => exact ⟨false, 1, c0, rfl, .inl ⟨rfl, rfl, rfl⟩, HN0.out, Below.refl _ _, by simp [HG.out]⟩
    case pos =>
      have HNW : Hid (Calls Tryz.prog 9 #[.int .i64 id, .int .i64 n] w0 fun e w' => ∃ p, e = .returned (.tuple #[.pointer (some ⟨p, 0, none⟩), .int .i64 0]) ∧ w0.heap.size ≤ p ∧ Below w0.heap.size w0 w' ∧ ∃ c', Lx w0 c0 c' ∧ RV 0 c' w' p (newR id.toNat n.toNat)) := Lib.hid (by
        have h := new_any 0 c0 id.toNat n.toNat w0 (by omega)
        rw [Int.toNat_of_nonneg (by omega), Int.toNat_of_nonneg (by omega)] at h
        exact h)
      have HG := Lib.hid hg
      clear hg
      go_wp2_with fail
      refine HNW.out.mono ?_
      rintro e w1 ⟨p, rfl, hp, hb1, c1, hx1, hr1⟩
      have H1 := Lib.hid (And.intro hb1 (And.intro (HN0.out.below hx1 hb1) hr1))
      clear hp hb1 hx1 hr1 HNW
      go_wp2_with fail
      go_meet
      case rel => exact ⟨true, 0, c1, rfl, .inr ⟨rfl, rfl, p, rfl, HG.out, H1.out.2.2⟩, H1.out.2.1, H1.out.1, by simp [HG.out]⟩
  case rest =>
    obtain ⟨g, e, c1, rfl, hrn, hnw, hb1, hgg⟩ := hcut
    obtain ⟨wA, hwA⟩ : ∃ wA, wA = wc := ⟨_, rfl⟩
    subst hwA
    have H1 := Lib.hid (And.intro hnw (And.intro hb1 (And.intro hrn hgg)))
    have hq1 := hrn.dec
    have hq0 := hrn.beq
    have hq2 := hrn.ptr
    have hq5 := hrn.grd
    have hq3 := bool_same g
    have HGG := Lib.hid hgg
    clear HN0 hnw hb1 hrn hgg
    go_upto_region 2 with fail
    go_cut [9] from 42 (fun gv wx => gv = .bool g ∧ wx = wA)
    case first =>
      have HQ := Lib.hid (And.intro hq1 (And.intro hq2 hq3))
      clear hq0 hq1 hq2 hq3 hq5
      by_cases t1 : 1 ≤ n
      · by_cases t2 : n ≤ 7
        · by_cases t3 : 0 ≤ id
          · by_cases t4 : id < n
            · go_wp2_with fail
              go_meet
              case rel => exact ⟨by rw [HGG.out.2 ⟨t1, t2, t3, t4⟩], rfl⟩
            · go_wp2_with fail
              go_meet
              case rel => exact ⟨by rw [show g = false from Bool.eq_false_iff.2 fun h => (by have := (HGG.out.1 h).2.2.2; omega)], rfl⟩
          · go_wp2_with fail
            go_meet
            case rel => exact ⟨by rw [show g = false from Bool.eq_false_iff.2 fun h => (by have := (HGG.out.1 h).2.2.1; omega)], rfl⟩
        · go_wp2_with fail
          go_meet
          case rel => exact ⟨by rw [show g = false from Bool.eq_false_iff.2 fun h => (by have := (HGG.out.1 h).2.1; omega)], rfl⟩
      · go_wp2_with fail
        go_meet
        case rel => exact ⟨by rw [show g = false from Bool.eq_false_iff.2 fun h => (by have := (HGG.out.1 h).1; omega)], rfl⟩
    case rest =>
      obtain ⟨rfl, hwc⟩ := hcut
      subst hwc
      obtain ⟨wB, hwB⟩ : ∃ wB, wB = wc := ⟨_, rfl⟩
      subst hwB
      have hbk := HO.out.1.below H1.out.2.1 HO.out.1.lt
      have HBK : Hid (World.rangeAt wB b0 0 (opC o (.slice ua o.c.sco.length uc))) := Lib.hid (blk_range hbk)
      have HSO := Lib.hid (op_size o (.slice ua o.c.sco.length uc))
      clear hbk
      have HT := Lib.hid (tick_nil wB)
      go_wp2_with fail
      refine HT.out.mono ?_
      rintro e wa ⟨rfl, rfl⟩
      clear HT
      have HT : Hid (Calls Tryz.prog 11 #[.pointer none, .agg (opC o (.slice ua o.c.sco.length uc)).toArray] wa fun e w' => e = .returned (.tuple #[.int .i64 0, .int .i64 12]) ∧ Below wa.heap.size wa w') := Lib.hid (ask_nil o ua o.c.sco.length uc wa)
      go_wp2_with (refine wpList_load_mid rfl 26 (.tmp 5) rfl b0 0 rfl (opC o (.slice ua o.c.sco.length uc)) _ HBK.out Tryz.underlying26 rfl HSO.out ?_)
      refine HT.out.mono ?_
      rintro e wb ⟨rfl, hb⟩
      have HBa := Lib.hid hb
      clear HT hb
      go_upto_region 6 with fail
      go_cut [113] from 114 (fun v wx => v = .bool false ∧ Below wb.heap.size wb wx)
      case first =>
        have HT := Lib.hid (known_any wb)
        go_wp2_with fail
        refine HT.out.mono ?_
        rintro e wd ⟨rfl, hb⟩
        have HBb := Lib.hid hb
        clear HT hb HBa
        have HT := Lib.hid (take_nil 0 0 0 0 0 0 0 0 none 0 0 wd)
        unfold msV at HT
        go_wp2_with fail
        refine HT.out.mono ?_
        rintro e we ⟨rfl, hb⟩
        have HBa := Lib.hid (HBb.out.trans (hb.mono HBb.out.size))
        clear HT hb HBb
        have HT := Lib.hid (leads_nil we)
        go_wp2_with fail
        refine HT.out.mono ?_
        rintro e wf ⟨rfl, k, rfl⟩
        have HBb := Lib.hid (below_drewN HBa.out k)
        clear HT HBa
        generalize we.drewN k = wf at *
        have HT := Lib.hid (stand_nil wf)
        have hss := stand_same
        go_wp2_with fail
        refine HT.out.mono ?_
        rintro e wg ⟨rfl, hb⟩
        have HBa := Lib.hid (HBb.out.trans (hb.mono HBb.out.size))
        clear HT hb HBb
        have HT := Lib.hid (ops_nil wg)
        go_wp2_with fail
        refine HT.out.mono ?_
        rintro e wh ⟨rfl, rfl⟩
        clear HT
        have HT := Lib.hid (saves_nil wh)
        go_wp2_with fail
        refine HT.out.mono ?_
        rintro e wi ⟨rfl, rfl⟩
        clear HT
        have HT := Lib.hid (out_nil wi)
        go_wp2_with fail
        refine HT.out.mono ?_
        rintro e wj ⟨rfl, rfl⟩
        clear HT
        have HT := Lib.hid (ready_nil wj)
        go_wp2_with fail
        refine HT.out.mono ?_
        rintro e wk ⟨rfl, rfl⟩
        clear HT
        have HT := Lib.hid (kept_nil wk)
        have hkf := kept_field
        go_wp2_with fail
        refine HT.out.mono ?_
        rintro e wN ⟨rfl, hb⟩
        have HBN := Lib.hid (HBa.out.trans (hb.mono HBa.out.size))
        clear HT hb HBa
        go_wp2_with fail
        go_meet
        case rel => exact ⟨rfl, HBN.out⟩
      case rest =>
      obtain ⟨rfl, hbx⟩ := hcut
      obtain ⟨wN, hwN⟩ : ∃ wN, wN = wc := ⟨_, rfl⟩
      subst hwN
      have HBN := Lib.hid (HBa.out.trans (hbx.mono HBa.out.size))
      clear hbx HBa
      clear hq0 hq1 hq2 hq3 hq5 HBK HSO
      go_upto_region 8 with fail
      have HBW : Hid (Below w.heap.size w wN) := Lib.hid (HO.out.2.1.trans ((H1.out.1.b.trans (HBN.out.mono H1.out.1.b.size)).mono HO.out.2.1.size))
      have HOB : Hid (Blk wN b0 26 (opC o (.slice ua o.c.sco.length uc))) := Lib.hid ((HO.out.1.below H1.out.2.1 HO.out.1.lt).below HBN.out (Nat.lt_of_lt_of_le HO.out.1.lt H1.out.2.1.size))
      have z9 := HOB.out.cell 9 rfl
      by_cases h50 : 50 < o.c.sco.length
      case pos =>
        have t1 : (50 : Int) < (o.c.sco.length : Int) := by omega
        clear h50
        go_wp2_with fail
        go_ret
        exact ⟨rfl, HBW.out⟩
      case neg =>
      have t1 : ¬ (50 : Int) < (o.c.sco.length : Int) := by omega
      have HL := Lib.hid h50
      clear h50
      rcases H1.out.2.2.1 with ⟨hg, -, -⟩ | ⟨hg, he, p, hp, hgd, hr⟩
      · subst hg
        go_wp2_with fail
        go_ret
        exact ⟨rfl, HBW.out⟩
      subst hg
      subst hp
      by_cases h0 : id = 0
      case neg =>
        have k0 : (id != 0) = true := by simp [h0]
        clear hgd hr he
        go_wp2_with fail
        go_ret
        exact ⟨rfl, HBW.out⟩
      case pos =>
      subst h0
      have HR := Lib.hid (And.intro hgd (hr.below (Lx.refl _ _) HBN.out))
      clear hgd hr he
      go_upto_region 10 with fail
      clear z9 t1
      have HBK : Hid (World.rangeAt wN b0 0 (opC o (.slice ua o.c.sco.length uc))) := Lib.hid (blk_range HOB.out)
      have HSO := Lib.hid (op_size o (.slice ua o.c.sco.length uc))
      have HZB : Hid (Blk (wN.alloc (.cells zeroC.toArray 26)) wN.heap.size 26 zeroC) := Lib.hid (Blk.new wN 26 _)
      have HON := Lib.hid (opC_one o ua o.c.sco.length uc)
      go_upto_region 11 with (first | refine wpList_load_mid rfl 26 (.tmp 5) rfl b0 0 rfl (opC o (.slice ua o.c.sco.length uc)) _ HBK.out Tryz.underlying26 rfl HSO.out ?_ | refine wpList_storeB rfl 26 (.tmp 13) (.tmp 127) rfl wN.heap.size (opC o (.slice ua o.c.sco.length uc)) rfl rfl 26 zeroC HZB.out HSO.out rfl HON.out (fun w3 hB3 hg3 => ?_))
      have H3 : Hid (Blk w3 wN.heap.size 26 (opC o (.slice ua o.c.sco.length uc)) ∧ Below wN.heap.size wN w3 ∧ wN.heap.size = wN.heap.size) := Lib.hid ⟨hB3, below_app (v := .slice (some ⟨wN.heap.size, 0, none⟩) 0 0) (Below.refl _ _) (Nat.le_refl _) hg3 (fun k e => by cases e; exact Nat.le_refl _), rfl⟩
      have hu3 : RdS w3 (.slice ua o.c.sco.length uc) o.c.sco := rdS_low HO.out.2.2.1 fun h0 g hg hlt => (HBW.out.trans (H3.out.2.1.mono HBW.out.size)).block g hlt
      obtain ⟨sa, sp, w4, hrun, hrd, hb4, how⟩ := scope_copy o.c.sco hu3 (by have := HL.out; omega)
      have HRUN := Lib.hid hrun
      have H4 := Lib.hid (And.intro hrd (And.intro hb4 how))
      clear hB3 hg3 hu3 hrun hrd hb4 how HBK HZB HON
      have z9 : (w3.alloc (.cells #[] 9)).cell? ⟨b0, 9, none⟩ = _ := ((HOB.out.below H3.out.2.1 HOB.out.lt).alloc _).cell 9 rfl
      have q9 : w4.cell? ⟨wN.heap.size, 9, none⟩ = _ := (cell_eqK (H4.out.2.1.block wN.heap.size H3.out.1.lt) 9).trans (H3.out.1.cell 9 rfl)
      have f9 : w4.frozen? ⟨wN.heap.size, 9, none⟩ = false := (frz_of (H4.out.2.1.block wN.heap.size H3.out.1.lt) 9).trans (H3.out.1.frozen 9)
      go_upto_region 12 with (at_builtin; go_loud (refine wpList_execA rfl (execA (.tmp 128) (.tmp 131) 22 rfl rfl rfl HRUN.out) ?_))
      clear z9 q9 f9
      have H5 : Hid (Blk (w4.setCell ⟨wN.heap.size, 9, none⟩ (.slice sa o.c.sco.length sp)) wN.heap.size 26 (opC o (.slice sa o.c.sco.length sp)) ∧ RdS (w4.setCell ⟨wN.heap.size, 9, none⟩ (.slice sa o.c.sco.length sp)) (.slice sa o.c.sco.length sp) o.c.sco ∧ Below wN.heap.size wN (w4.setCell ⟨wN.heap.size, 9, none⟩ (.slice sa o.c.sco.length sp)) ∧ (∀ g, (Value.slice sa o.c.sco.length sp).ownBlock = some g → wN.heap.size ≤ g ∧ g < (w4.setCell ⟨wN.heap.size, 9, none⟩ (.slice sa o.c.sco.length sp)).heap.size ∧ ∀ q, (w4.setCell ⟨wN.heap.size, 9, none⟩ (.slice sa o.c.sco.length sp)).frozen? ⟨g, q, none⟩ = false)) := Lib.hid (by
        have h1 : Blk w4 wN.heap.size 26 (opC o (.slice ua o.c.sco.length uc)) := (H4.out.2.1.block wN.heap.size H3.out.1.lt).trans H3.out.1
        have hne : ∀ g, (Value.slice sa o.c.sco.length sp).ownBlock = some g → g ≠ wN.heap.size := fun g hg e => by have h2 := (H4.out.2.2 g hg).1; have h3 := H3.out.1.lt; omega
        refine ⟨h1.set 9 (.slice sa o.c.sco.length sp), rdS_low H4.out.1 fun h0 g hg hlt => set_heap_ne _ _ _ _ _ (hne g hg), ((H3.out.2.1.trans (H4.out.2.1.mono H3.out.2.1.size)).setCell (Nat.le_refl _) _), fun g hg => ⟨?_, ?_, fun q => (World.frozen?_setCell _ _ _ _).trans ((H4.out.2.2 g hg).2.2 q)⟩⟩
        · exact Nat.le_trans H3.out.2.1.size (H4.out.2.2 g hg).1
        · rw [set_size]; exact (H4.out.2.2 g hg).2.1)
      generalize w4.setCell ⟨wN.heap.size, 9, none⟩ (.slice sa o.c.sco.length sp) = w5 at *
      clear HRUN H4 H3
      obtain ⟨m, hm⟩ : ∃ m, m = n.toNat := ⟨_, rfl⟩
      obtain ⟨c5, hc5⟩ : ∃ c5 : Lb, c5 = (fun j => if j < wN.heap.size then c1 j else 301) := ⟨_, rfl⟩
      have HX5 : Hid (Lx wN c1 c5 ∧ ∀ g, wN.heap.size ≤ g → c5 g = 301) := Lib.hid ⟨by rw [hc5]; exact fun j hj => if_pos hj, fun g hg => by rw [hc5]; exact if_neg (by omega)⟩
      have HM : Hid (1 ≤ m ∧ m ≤ 7) := Lib.hid (by have := HR.out.1; omega)
      have HR5 : Hid (RV 0 c5 w5 p (newR 0 m) ∧ NW c5 w0 w5) := Lib.hid ⟨by rw [hm]; exact HR.out.2.below HX5.out.1 H5.out.2.2.1, (H1.out.1.below (Lx.refl _ _) HBN.out).below HX5.out.1 H5.out.2.2.1⟩
      have HSV5 := Lib.hid (op_size o (.slice sa o.c.sco.length sp))
      have HK5 : Hid (World.rangeAt w5 wN.heap.size 0 (opC o (.slice sa o.c.sco.length sp))) := Lib.hid (blk_range H5.out.1)
      have hak0 := ask_any (i := 0) (li := 301) o (.slice sa o.c.sco.length sp) p w5 HR5.out.1 (li_new 0 m (by have := HM.out; omega)) (fun _ => hb_new 0 m) ⟨H5.out.2.1, fun h0 g hg => HX5.out.2 g (H5.out.2.2.2 g hg).1, HO.out.2.2.2.1.ok (by have := HL.out; omega), fun h => absurd h (by decide)⟩ (Nat.zero_le _)
      clear hc5 hm HR
      cases hmay : mayO o
      case false =>
        rw [kn_no hmay] at hak0
        have HAK : Hid (Calls Tryz.prog 11 #[.pointer (some ⟨p, 0, none⟩), .agg (opC o (.slice sa o.c.sco.length sp)).toArray] w5 fun e w' => e = .returned (.tuple #[.int .i64 0, .int .i64 1]) ∧ Mt (Fi 0) 0 c5 w5 w' p (newR 0 m)) := Lib.hid hak0
        clear hak0 hmay
        go_wp2_with (refine wpList_load_mid rfl 26 (.tmp 13) rfl wN.heap.size 0 rfl (opC o (.slice sa o.c.sco.length sp)) _ HK5.out Tryz.underlying26 rfl HSV5.out ?_)
        refine HAK.out.mono ?_
        rintro e6 w6 ⟨rfl, c6, hx6, hf6, hr6⟩
        have H6 := Lib.hid (And.intro (HR5.out.2.fr (by decide) hx6 hf6) hr6)
        have HOP := Lib.hid (ops_any (i := 0) p w6 hr6 (Nat.zero_le _))
        clear hx6 hf6 hr6 HAK HR5 HK5 H5
        go_wp2_with fail
        refine HOP.out.mono ?_
        rintro e7 w7 ⟨v7, rfl, hno, hb7⟩
        obtain ⟨a7, q7, e7⟩ := hno.slice
        rw [show (newR 0 m : Rp Op).log.length = 0 from rfl] at e7
        subst e7
        have H7 := Lib.hid (And.intro (H6.out.1.below (Lx.refl _ _) hb7) (H6.out.2.below (Lx.refl _ _) hb7))
        have HSV := Lib.hid (saves_any (i := 0) p w7 H7.out.2)
        clear hno hb7 HOP H6
        go_wp2_with fail
        refine HSV.out.mono ?_
        rintro e8 w8 ⟨v8, rfl, hrow, hps, hr8⟩
        obtain ⟨a8, q8, e8⟩ := hrow.slice
        rw [show (newR 0 m : Rp Op).saves.length = 0 from rfl] at e8
        subst e8
        have H8 := Lib.hid (H7.out.1.fr (i := 0) (by decide) (Lx.refl _ _) (hps.fr (show Fi 0 (c6 p) by rw [H7.out.2.lb]; unfold Fi; omega)))
        clear hrow hps hr8 HSV
        go_wp2_with fail
        go_ret
        exact ⟨rfl, HO.out.2.1.trans (H8.out.b.mono HO.out.2.1.size)⟩
      case true =>
      rw [kn_ok hmay, if_pos rfl, if_pos rfl] at hak0
      have HAK : Hid (Calls Tryz.prog 11 #[.pointer (some ⟨p, 0, none⟩), .agg (opC o (.slice sa o.c.sco.length sp)).toArray] w5 fun e w' => e = .returned (.tuple #[.int .i64 1, .int .i64 0]) ∧ Mt (Fi 0) 0 c5 w5 w' p (ask (newR 0 m) o)) := Lib.hid hak0
      clear hak0 hmay
      go_wp2_with (refine wpList_load_mid rfl 26 (.tmp 13) rfl wN.heap.size 0 rfl (opC o (.slice sa o.c.sco.length sp)) _ HK5.out Tryz.underlying26 rfl HSV5.out ?_)
      refine HAK.out.mono ?_
      rintro e6 w6 ⟨rfl, c6, hx6, hf6, hr6⟩
      have H6 : Hid (NW c6 w0 w6 ∧ RV 0 c6 w6 p (ask (newR 0 m) o) ∧ World.rangeAt w6 wN.heap.size 0 (opC o (.slice sa o.c.sco.length sp)) ∧ WrS w6 (.slice sa o.c.sco.length sp) o.c.sco.length ∧ ∀ g, Value.ownBlock (.slice sa o.c.sco.length sp) = some g → c6 g = 301) := Lib.hid (by
        have hin : ∀ g, c5 g = 301 → g < w5.heap.size → w6.heap[g]? = w5.heap[g]? := fun g hg hlt => hf6.block g hlt (by rw [hg]; unfold Fi; omega)
        have h1 := H5.out.2.2.2
        refine ⟨HR5.out.2.fr (by decide) hx6 hf6, hr6, range_cellsE HK5.out (hin _ (HX5.out.2 _ (Nat.le_refl _)) H5.out.1.lt), WrS.of (rdS_low H5.out.2.1 fun h0 g hg hlt => hin g (HX5.out.2 g (h1 g hg).1) hlt) fun h0 g hg q => (frz_of (hin g (HX5.out.2 g (h1 g hg).1) (h1 g hg).2.1) q).trans ((h1 g hg).2.2 q), fun g hg => (hx6 g (h1 g hg).2.1).trans (HX5.out.2 g (h1 g hg).1)⟩)
      clear hx6 hf6 hr6 HAK HR5 HK5 H5
      have HWI : Hid (Calls Tryz.prog 21 #[.agg (opC o (.slice sa o.c.sco.length sp)).toArray] w6 fun e w' => e = .returned (.tuple #[]) ∧ Wi (fun k => 0 < o.c.sco.length ∧ Value.ownBlock (.slice sa o.c.sco.length sp) = some k) w6 w') := Lib.hid (wipe_any o (.slice sa o.c.sco.length sp) w6 H6.out.2.2.2.1 (by have := HL.out; omega))
      go_wp2_with (refine wpList_load_mid rfl 26 (.tmp 13) rfl wN.heap.size 0 rfl (opC o (.slice sa o.c.sco.length sp)) _ H6.out.2.2.1 Tryz.underlying26 rfl HSV5.out ?_)
      refine HWI.out.mono ?_
      rintro e7 w7 ⟨rfl, hwi⟩
      have H7 : Hid (NW c6 w0 w7 ∧ RV 0 c6 w7 p (ask (newR 0 m) o)) := Lib.hid ⟨H6.out.1.wi hwi fun k _ hk => (by rw [H6.out.2.2.2.2 k hk.2]; decide), H6.out.2.1.keep (Lx.refl _ _) fun k hk hl => hwi.block k hk fun e => by rw [H6.out.2.2.2.2 k e.2] at hl; omega⟩
      clear HWI hwi H6
      have hop := ops_any (i := 0) p w7 H7.out.2 (by rw [kn_log HM.out o]; simp)
      rw [kn_log HM.out o] at hop
      have HOP := Lib.hid hop
      clear hop
      go_wp2_with fail
      refine HOP.out.mono ?_
      rintro e8 w8 ⟨v8, rfl, hno, hb8⟩
      obtain ⟨b8, q8, a8, k8, e8, hrg8, hwr8, how8⟩ := hno.fst
      subst e8
      have H8 := Lib.hid (And.intro hrg8 (And.intro hwr8 (And.intro how8 hb8)))
      have HS8 := Lib.hid (op_size o (.slice a8 o.c.sco.length k8))
      clear hno hb8 hrg8 hwr8 how8 HOP
      have HWI : Hid (Calls Tryz.prog 21 #[.agg (opC o (.slice a8 o.c.sco.length k8)).toArray] w8 fun e w' => e = .returned (.tuple #[]) ∧ Wi (fun k => 0 < o.c.sco.length ∧ Value.ownBlock (.slice a8 o.c.sco.length k8) = some k) w8 w') := Lib.hid (wipe_any o (.slice a8 o.c.sco.length k8) w8 H8.out.2.1 (by have := HL.out; omega))
      go_wp2_with (refine wpList_load_mid rfl 26 (.tmp 158) rfl b8 0 rfl (opC o (.slice a8 o.c.sco.length k8)) _ H8.out.1 Tryz.underlying26 rfl HS8.out ?_)
      refine HWI.out.mono ?_
      rintro e9 w9 ⟨rfl, hwi⟩
      have hb79 : Below w7.heap.size w7 w9 := H8.out.2.2.2.trans (hwi.below H8.out.2.2.2.size fun k hk e => by have := H8.out.2.2.1 k e.2; omega)
      have H9 := Lib.hid (And.intro (H7.out.1.below (Lx.refl _ _) hb79) (H7.out.2.below (Lx.refl _ _) hb79))
      clear hwi hb79 HWI H8 HS8 H7
      have hsv := saves_any (i := 0) p w9 H9.out.2
      rw [kn_sv HM.out o] at hsv
      have HSV := Lib.hid hsv
      clear hsv
      go_wp2_with fail
      refine HSV.out.mono ?_
      rintro e10 w10 ⟨v10, rfl, hrow, hps, hr10⟩
      obtain ⟨gs, qs, egs, hgs, hcgs⟩ := hrow.form (by simp)
      subst egs
      obtain ⟨g1, of1, cp1, u1, e1, hin1, hc1⟩ := hrow.sl.get (svE_ok 2) (i := 0) rfl
      cases e1
      obtain ⟨b10, f10, q10, a10, k10, e10, hrg10, htx10, hlt10⟩ := (SvI.s hin1).fst
      subst e10
      have y3 : w10.cell? ⟨gs, 3, none⟩ = some (.slice (some ⟨b10, f10, none⟩) 1 q10) := hc1 3 _ rfl
      have H10 := Lib.hid (And.intro (H9.out.1.fr (i := 0) (by decide) (Lx.refl _ _) (hps.fr (show Fi 0 (c6 p) by rw [H9.out.2.lb]; unfold Fi; omega))) (And.intro hr10 (And.intro hrg10 htx10)))
      have HS10 := Lib.hid (op_size o (.slice a10 o.c.sco.length k10))
      clear hrow hps hr10 hgs hcgs hin1 hc1 hrg10 htx10 hlt10 HSV H9
      have HWI : Hid (Calls Tryz.prog 21 #[.agg (opC o (.slice a10 o.c.sco.length k10)).toArray] w10 fun e w' => e = .returned (.tuple #[]) ∧ Wi (fun k => 0 < o.c.sco.length ∧ Value.ownBlock (.slice a10 o.c.sco.length k10) = some k) w10 w') := Lib.hid (wipe_any o (.slice a10 o.c.sco.length k10) w10 (H10.out.2.2.2.wr (by decide)) (by have := HL.out; omega))
      go_wp2_with (refine wpList_load_mid rfl 26 (.tmp 167) rfl b10 f10 rfl (opC o (.slice a10 o.c.sco.length k10)) _ H10.out.2.2.1 Tryz.underlying26 rfl HS10.out ?_)
      refine HWI.out.mono ?_
      rintro e11 w11 ⟨rfl, hwi⟩
      have H11 : Hid (NW c6 w0 w11 ∧ RV 0 c6 w11 p { ask (newR 0 m) o with saves := [] }) := Lib.hid ⟨H10.out.1.wi hwi fun k _ hk => (by rw [H10.out.2.2.2.wg hk]; decide), H10.out.2.1.keepE rfl (Lx.refl _ _) fun k hk hl => hwi.block k hk fun e => by rw [H10.out.2.2.2.wg e] at hl; omega⟩
      clear HWI hwi H10 HS10 y3
      have HOU := Lib.hid (out_any (i := 0) p w11 H11.out.2)
      go_wp2_with fail
      refine HOU.out.mono ?_
      rintro e12 w12 ⟨v12, rfl, hrow, hps, hr12⟩
      obtain ⟨L, hL⟩ : ∃ L, L = (ask (newR 0 m) o).out := ⟨_, rfl⟩
      have hLo := kn_outs HM.out o
      rw [← hL] at hLo
      have hrow2 : Row (sdE 3) c6 (15 + 10 * 0) w12 v12 L := by rw [hL]; exact hrow
      obtain ⟨aO, qO, eO⟩ := hrow2.slice
      subst eO
      have H12 : Hid (NW c6 w0 w12 ∧ RV 0 c6 w12 p { ({ ask (newR 0 m) o with saves := [] } : Rp Op) with out := [] } ∧ Row (sdE 3) c6 15 w12 (.slice aO L.length qO) L ∧ (L.length ≤ 6 ∧ ∀ x ∈ L, x.m.ops = [o])) := Lib.hid ⟨H11.out.1.fr (i := 0) (by decide) (Lx.refl _ _) (hps.fr (show Fi 0 (c6 p) by rw [H11.out.2.lb]; unfold Fi; omega)), hr12, hrow2, hLo⟩
      clear hrow hrow2 hps hr12 hLo hL HOU H11
      go_wp2_with fail
      go_loopw [19] (fun iv wr => ∃ k : Nat, k ≤ L.length ∧ iv = .int .i64 (k : Int) ∧ Wi (fun j => c6 j = 3) w12 wr) (fun iv _ => L.length - (intOf iv).toNat)
      case atStart => exact ⟨0, Nat.zero_le _, rfl, Wi.of_below _ (Below.refl _ _)⟩
      case round =>
        obtain ⟨k, hk, rfl, hwi⟩ := hrel
        by_cases hkL : k < L.length
        case pos =>
          have t1 : (k : Int) < (L.length : Int) := by omega
          obtain ⟨x, hx⟩ : ∃ x, L[k]? = some x := ⟨_, List.getElem?_eq_getElem hkL⟩
          obtain ⟨go, qo, ego, hgo, hcgo⟩ := H12.out.2.2.1.form (by omega)
          obtain ⟨g1, of1, cp1, u1, e1, hin1, hc1⟩ := H12.out.2.2.1.sl.get (sdE_ok 3) hx
          rw [ego] at e1
          cases e1
          cases ego
          have hsl := SdI.s hin1
          rw [H12.out.2.2.2.2 x (List.mem_of_getElem? hx)] at hsl
          obtain ⟨b3, f3, q3, a3, k3, e3, hrg3, htx3, hlt3⟩ := hsl.fst
          subst e3
          obtain ⟨o', ho', hrg'⟩ := op_wi hrg3 hlt3 hwi
          have y6 : wr.cell? ⟨go, k * 10 + 6, none⟩ = some (.slice (some ⟨b3, f3, none⟩) 1 q3) := by
            have h1 := hc1 6 _ rfl
            rw [show 0 + k * (sdE 3).sz + 6 = k * 10 + 6 by show 0 + k * 10 + 6 = _; omega] at h1
            exact (cell_eqK (hwi.block go hgo (by rw [hcgo]; decide)) _).trans h1
          have HI := Lib.hid (And.intro hwi (And.intro hrg' (And.intro htx3 (And.intro ho' hkL))))
          have HS3 := Lib.hid (op_size o' (.slice a3 o.c.sco.length k3))
          have HWI : Hid (Calls Tryz.prog 21 #[.agg (opC o' (.slice a3 o.c.sco.length k3)).toArray] wr fun e w' => e = .returned (.tuple #[]) ∧ Wi (fun k => 0 < o'.c.sco.length ∧ Value.ownBlock (.slice a3 o.c.sco.length k3) = some k) wr w') := Lib.hid (wipe_any o' (.slice a3 o.c.sco.length k3) wr (by rw [ho']; exact (htx3.wr (by decide)).wi hwi) (by rw [ho']; have := HL.out; omega))
          clear hk hkL hx hgo hcgo hin1 hc1 hsl hrg3 htx3 hlt3 hwi hrg'
          go_wp2_with (refine wpList_load_mid rfl 26 (.tmp 184) rfl b3 f3 rfl (opC o' (.slice a3 o.c.sco.length k3)) _ HI.out.2.1 Tryz.underlying26 rfl HS3.out ?_)
          refine HWI.out.mono ?_
          rintro e13 w13 ⟨rfl, hwi2⟩
          have HN : Hid (Wi (fun j => c6 j = 3) w12 w13) := Lib.hid (HI.out.1.trans (hwi2.mono fun j _ hj => HI.out.2.2.1.wg (by rw [HI.out.2.2.2.1] at hj; exact hj)))
          have HWR : Hid (wrap64 ((k : Int) + 1) = ((k + 1 : Nat) : Int)) := Lib.hid (by have h4 := HI.out.2.2.2.2; have h5 := H12.out.2.2.2.1; rw [IntWalk.wrap64_in _ (by omega)]; omega)
          clear HWI hwi2 y6 HS3
          go_wp2_with fail
          case roundEnd =>
            try rw [HWR.out]
            have h4 := HI.out.2.2.2.2
            exact ⟨⟨k + 1, h4, rfl, HN.out⟩, by simp [intOf]; omega⟩
        case neg =>
          have t1 : ¬ (k : Int) < (L.length : Int) := by omega
          have H13 : Hid (NW c6 w0 wr ∧ RV 0 c6 wr p { ({ ask (newR 0 m) o with saves := [] } : Rp Op) with out := [] }) := Lib.hid ⟨H12.out.1.wi hwi fun j _ hj => (by rw [hj]; decide), H12.out.2.1.keepE rfl (Lx.refl _ _) fun j hj hl => hwi.block j hj fun e => by
            rw [e] at hl
            rcases hl with hl | hl | hl
            · omega
            · exact hl.2 rfl
            · omega⟩
          clear hk hkL hwi H12
          have hkp := kept_any (i := 0) p wr H13.out.2 (by show (ask (newR 0 m) o).log.length ≤ _; rw [kn_log HM.out o]; simp)
          have hke : ({ ({ ask (newR 0 m) o with saves := [] } : Rp Op) with out := [] } : Rp Op).log = [o] := kn_log HM.out o
          rw [hke] at hkp
          generalize ({ ({ ask (newR 0 m) o with saves := [] } : Rp Op) with out := [] } : Rp Op) = RR at hkp H13 hke
          have HKP := Lib.hid hkp
          have HKE := Lib.hid hke
          clear hkp hke
          go_wp2_with fail
          refine HKP.out.mono ?_
          rintro e14 w14 ⟨v14, rfl, hno, hb14⟩
          obtain ⟨b14, q14, a14, k14, e14, hrg14, hwr14, how14⟩ := hno.fst
          subst e14
          have H14 := Lib.hid (And.intro hb14 (And.intro hrg14 (And.intro hwr14 how14)))
          clear hno hb14 hrg14 hwr14 how14 HKP
          go_upto_region 26 with fail
          obtain ⟨w15, hw15⟩ : ∃ w15, w15 = w14.alloc (.cells #[.int .i64 (RR.vw : Int), .int .i64 (RR.nr : Int), .int .i64 (RR.bs : Int), .int .i64 (RR.td : Int), .slice (some ⟨b14, 0, none⟩) 1 q14] 47) := ⟨_, rfl⟩
          have hba : Below w14.heap.size w14 w15 := by rw [hw15]; exact (Below.refl _ _).alloc (Nat.le_refl _) _
          have hbk : Blk w15 w14.heap.size 47 (#[.int .i64 (RR.vw : Int), .int .i64 (RR.nr : Int), .int .i64 (RR.bs : Int), .int .i64 (RR.td : Int), .slice (some ⟨b14, 0, none⟩) 1 q14] : Array Value).toList := by rw [hw15]; exact Blk.new w14 47 _
          have y4 : w15.cell? ⟨w14.heap.size, 4, none⟩ = some (.slice (some ⟨b14, 0, none⟩) 1 q14) := hbk.cell 4 rfl
          have H15 : Hid (Below wr.heap.size wr w15 ∧ World.rangeAt w15 b14 0 (opC o (.slice a14 o.c.sco.length k14)) ∧ WrS w15 (.slice a14 o.c.sco.length k14) o.c.sco.length) := Lib.hid ⟨H14.out.1.trans (hba.mono H14.out.1.size), range_below' H14.out.2.1 hba, H14.out.2.2.1.wi (Wi.of_below (fun _ => False) hba)⟩
          have HS14 := Lib.hid (op_size o (.slice a14 o.c.sco.length k14))
          rw [← hw15]
          clear hba hbk hw15
          have HWI : Hid (Calls Tryz.prog 21 #[.agg (opC o (.slice a14 o.c.sco.length k14)).toArray] w15 fun e w' => e = .returned (.tuple #[]) ∧ Wi (fun k => 0 < o.c.sco.length ∧ Value.ownBlock (.slice a14 o.c.sco.length k14) = some k) w15 w') := Lib.hid (wipe_any o (.slice a14 o.c.sco.length k14) w15 H15.out.2.2 (by have := HL.out; omega))
          go_wp2_with (refine wpList_load_mid rfl 26 (.tmp 191) rfl b14 0 rfl (opC o (.slice a14 o.c.sco.length k14)) _ H15.out.2.1 Tryz.underlying26 rfl HS14.out ?_)
          refine HWI.out.mono ?_
          rintro e16 w16 ⟨rfl, hwi⟩
          have hb16 : Below wr.heap.size wr w16 := H15.out.1.trans (hwi.below H15.out.1.size fun j hj e => by have := H14.out.2.2.2 j e.2; omega)
          have H16 : Hid (NW c6 w0 w16 ∧ RV 0 c6 w16 p RR) := Lib.hid ⟨H13.out.1.below (Lx.refl _ _) hb16, H13.out.2.below (Lx.refl _ _) hb16⟩
          have HOC : Hid (Gr.CmOk o.c) := Lib.hid (HO.out.2.2.2.1.ok (by have := HL.out; omega))
          clear hwi hb16 HWI y4 HS14 H15 H14 H13
          go_upto_region 27 with fail
          have HOB0 : Hid (Blk w16.drew b0 26 (opC o (.slice ua o.c.sco.length uc))) := Lib.hid (HO.out.1.below H16.out.1.b HO.out.1.lt).drew
          have HU0 := Lib.hid (rdS_low HO.out.2.2.1 fun h0 g hg hlt => HO.out.2.1.block g hlt)
          have H17 : Hid (NW c6 w0 w16.drew ∧ RV 0 c6 w16.drew p RR) := Lib.hid ⟨H16.out.1.below (Lx.refl _ _) (below_drewN (Below.refl _ _) 1), H16.out.2.drew⟩
          refine wp_region_held_drew (S := (fun W => Hid (Blk W b0 26 (opC o (.slice ua o.c.sco.length uc))))) (by kernel_rfl) ?_ (fun hHeld1 => ?_)
          · exact HOB0.out
          generalize w16.drew = WD at *
          refine wpAnyH_take (i := 0) (oi := ?oi1) (v := ?v1) ?hi1 (by kernel_rfl) (by kernel_rfl) (by kernel_rfl) ?hq1 ?hy1 (by assumption) ?rest1
          case hi1 => (simp only [List.getElem?_toArray, List.getElem?_cons_succ, List.getElem?_cons_zero]; rfl)
          case hq1 => exact fun _ _ _ h => h
          case hy1 => (refine Or.inl ⟨by rfl, ?_⟩; intro W hSw; (try dsimp only at hSw); go_simp; (try with_reducible rfl))
          try simp only [Act.put, List.setIfInBounds_toArray, List.set_cons_zero, List.set_cons_succ]
          refine wpAnyH_take (i := 2) (oi := ?oi2) (v := ?v2) ?hi2 (by kernel_rfl) (by kernel_rfl) (by kernel_rfl) ?hq2 ?hy2 (by assumption) ?rest2
          case hi2 => (simp only [List.getElem?_toArray, List.getElem?_cons_succ, List.getElem?_cons_zero]; rfl)
          case hq2 => exact fun _ _ _ h => h
          case hy2 => (refine Or.inl ⟨by rfl, ?_⟩; intro W hSw; (have hb := hSw.out; clear hSw; have z0 := hb.cell 0 rfl; have z1 := hb.cell 1 rfl; have z2 := hb.cell 2 rfl; have z3 := hb.cell 3 rfl; have z4 := hb.cell 4 rfl; have z5 := hb.cell 5 rfl; have z6 := hb.cell 6 rfl; have z7 := hb.cell 7 rfl; have z8 := hb.cell 8 rfl; have z9 := hb.cell 9 rfl; have z10 := hb.cell 10 rfl; have z11 := hb.cell 11 rfl; have z12 := hb.cell 12 rfl; have z13 := hb.cell 13 rfl; have z14 := hb.cell 14 rfl; have z15 := hb.cell 15 rfl; clear hb); go_simp; (try with_reducible rfl))
          try simp only [Act.put, List.setIfInBounds_toArray, List.set_cons_zero, List.set_cons_succ]
          refine wpAnyH_ready (rs := [1, 3]) (by kernel_rfl) (by simp) ?_
          refine (AllReadyH.cons (o := ?o3_1) ?h3_1 (fun K hK => ?s3_1) (AllReadyH.cons (o := ?o3_3) ?h3_3 (fun K hK => ?s3_3) AllReadyH.nil))
          case h3_1 => (simp only [List.getElem?_toArray, List.getElem?_cons_succ, List.getElem?_cons_zero]; rfl)
          case h3_3 => (simp only [List.getElem?_toArray, List.getElem?_cons_succ, List.getElem?_cons_zero]; rfl)
          case s3_1 =>
            go_simp
            refine (ops_any (i := 0) p WD H17.out.2 (by rw [HKE.out]; simp)).mono ?_
            rintro e WDo ⟨vX, rfl, hno, hbX⟩
            rw [HKE.out] at hno
            obtain ⟨aX, qX, eX⟩ := hno.slice
            subst eX
            obtain ⟨hlx, hrw⟩ := NewO.row hno c6 302 303
            have HHWDo : Hid (NW (Lb.new c6 WD.heap.size (.slice aX [o].length qX) 302 303) w0 WDo ∧ RV 0 (Lb.new c6 WD.heap.size (.slice aX [o].length qX) 302 303) WDo p RR) := Lib.hid ⟨H17.out.1.below hlx hbX, H17.out.2.below hlx hbX⟩
            have HVA := Lib.hid hrw.sl
            have HBX := Lib.hid hbX
            have HLX := Lib.hid hlx
            clear hno hbX hlx hrw
            go_wp2_with fail
            refine hK.out _ _ ?_ (fun hHeld103 => ?_)
            · exact Lib.hid (HOB0.out.below HBX.out HOB0.out.lt)
            clear hK
            try simp only [Act.put, List.setIfInBounds_toArray, List.set_cons_zero, List.set_cons_succ]
            have HOB1 := Lib.hid (HOB0.out.below HBX.out HOB0.out.lt)
            refine wpAnyH_ready (rs := [3]) (by kernel_rfl) (by simp) ?_
            refine (AllReadyH.cons (o := ?o4_3) ?h4_3 (fun K hK => ?s4_3) AllReadyH.nil)
            case h4_3 => (simp only [List.getElem?_toArray, List.getElem?_cons_succ, List.getElem?_cons_zero]; rfl)
            case s4_3 =>
              go_simp
              have hbX : Below WDo.heap.size WDo (WDo.alloc (.cells #[.int .i64 o.ed, .int .i64 o.sq, .int .i64 o.lo, .int .i64 o.c.kd, .string ⟨o.c.fam.toArray⟩, .int .i64 o.c.ser, .int .i64 o.c.tok, .string ⟨o.c.cli.toArray⟩, .string ⟨o.c.usr.toArray⟩, .slice ua o.c.sco.length uc, .string ⟨o.c.red.toArray⟩, .string ⟨o.c.cha.toArray⟩, .string ⟨o.c.met.toArray⟩, .string ⟨o.c.ver.toArray⟩, .bool o.c.rf, .int .i64 o.c.edg] 26)) := (Below.refl _ _).alloc (Nat.le_refl _) _
              obtain ⟨cB, hlx, hsl⟩ := one_op HHWDo.out.1 HU0.out HOC.out
              unfold opC at hsl
              have HHWDob : Hid (NW cB w0 (WDo.alloc (.cells #[.int .i64 o.ed, .int .i64 o.sq, .int .i64 o.lo, .int .i64 o.c.kd, .string ⟨o.c.fam.toArray⟩, .int .i64 o.c.ser, .int .i64 o.c.tok, .string ⟨o.c.cli.toArray⟩, .string ⟨o.c.usr.toArray⟩, .slice ua o.c.sco.length uc, .string ⟨o.c.red.toArray⟩, .string ⟨o.c.cha.toArray⟩, .string ⟨o.c.met.toArray⟩, .string ⟨o.c.ver.toArray⟩, .bool o.c.rf, .int .i64 o.c.edg] 26)) ∧ RV 0 cB (WDo.alloc (.cells #[.int .i64 o.ed, .int .i64 o.sq, .int .i64 o.lo, .int .i64 o.c.kd, .string ⟨o.c.fam.toArray⟩, .int .i64 o.c.ser, .int .i64 o.c.tok, .string ⟨o.c.cli.toArray⟩, .string ⟨o.c.usr.toArray⟩, .slice ua o.c.sco.length uc, .string ⟨o.c.red.toArray⟩, .string ⟨o.c.cha.toArray⟩, .string ⟨o.c.met.toArray⟩, .string ⟨o.c.ver.toArray⟩, .bool o.c.rf, .int .i64 o.c.edg] 26)) p RR) := Lib.hid ⟨HHWDo.out.1.below hlx hbX, HHWDo.out.2.below hlx hbX⟩
              have HVB : Hid (SlR (opE 300) cB 304 (WDo.alloc (.cells #[.int .i64 o.ed, .int .i64 o.sq, .int .i64 o.lo, .int .i64 o.c.kd, .string ⟨o.c.fam.toArray⟩, .int .i64 o.c.ser, .int .i64 o.c.tok, .string ⟨o.c.cli.toArray⟩, .string ⟨o.c.usr.toArray⟩, .slice ua o.c.sco.length uc, .string ⟨o.c.red.toArray⟩, .string ⟨o.c.cha.toArray⟩, .string ⟨o.c.met.toArray⟩, .string ⟨o.c.ver.toArray⟩, .bool o.c.rf, .int .i64 o.c.edg] 26)) (.slice (some ⟨WDo.heap.size, 0, none⟩) 1 1) [o]) := Lib.hid hsl
              have HBX := Lib.hid hbX
              have HVA2 := Lib.hid (HVA.out.keep (opE_ok 303) hlx fun j hj _ => hbX.block j hj)
              clear hbX hlx hsl
              refine hK.out _ _ ?_ (fun hHeld104 => ?_)
              · exact Lib.hid (HOB1.out.below HBX.out HOB1.out.lt)
              clear hK
              try simp only [Act.put, List.setIfInBounds_toArray, List.set_cons_zero, List.set_cons_succ]
              have HOB2 := Lib.hid (HOB1.out.below HBX.out HOB1.out.lt)
              generalize (WDo.alloc (.cells #[.int .i64 o.ed, .int .i64 o.sq, .int .i64 o.lo, .int .i64 o.c.kd, .string ⟨o.c.fam.toArray⟩, .int .i64 o.c.ser, .int .i64 o.c.tok, .string ⟨o.c.cli.toArray⟩, .string ⟨o.c.usr.toArray⟩, .slice ua o.c.sco.length uc, .string ⟨o.c.red.toArray⟩, .string ⟨o.c.cha.toArray⟩, .string ⟨o.c.met.toArray⟩, .string ⟨o.c.ver.toArray⟩, .bool o.c.rf, .int .i64 o.c.edg] 26)) = WDob at *
              refine wpAnyH_ready (rs := [4]) (by kernel_rfl) (by simp) ?_
              refine (AllReadyH.cons (o := ?o5_4) ?h5_4 (fun K hK => ?s5_4) AllReadyH.nil)
              case h5_4 => (simp only [List.getElem?_toArray, List.getElem?_cons_succ, List.getElem?_cons_zero]; rfl)
              case s5_4 =>
                go_simp
                refine (ops_same [o] (.slice aX [o].length qX) (.slice (some ⟨WDo.heap.size, 0, none⟩) 1 1) WDob HVA2.out HVB.out (by simp)).mono ?_
                rintro e WZ ⟨rfl, hbZ⟩
                have HBZ := Lib.hid hbZ
                clear hbZ
                go_wp2_with fail
                refine hK.out _ _ ?_ (fun hHeld105 => ?_)
                · exact Lib.hid (HOB2.out.below HBZ.out HOB2.out.lt)
                clear hK
                try simp only [Act.put, List.setIfInBounds_toArray, List.set_cons_zero, List.set_cons_succ]
                refine wpAnyH_take (i := 5) (oi := ?oi6) (v := ?v6) ?hi6 (by kernel_rfl) (by kernel_rfl) (by kernel_rfl) ?hq6 ?hy6 (by assumption) ?rest6
                case hi6 => (simp only [List.getElem?_toArray, List.getElem?_cons_succ, List.getElem?_cons_zero]; rfl)
                case hq6 => exact fun _ _ _ h => h
                case hy6 => (refine Or.inl ⟨by rfl, ?_⟩; intro W hSw; (try dsimp only at hSw); go_simp; (try with_reducible rfl))
                try simp only [Act.put, List.setIfInBounds_toArray, List.set_cons_zero, List.set_cons_succ]
                refine wpAnyH_done (by kernel_rfl) ?_ _
                go_wp2_with fail
                go_ret
                exact ⟨rfl, HO.out.2.1.trans (((HHWDob.out.1.b).trans (HBZ.out.mono HHWDob.out.1.b.size)).mono HO.out.2.1.size)⟩
          case s3_3 =>
            go_simp
            have hbX : Below WD.heap.size WD (WD.alloc (.cells #[.int .i64 o.ed, .int .i64 o.sq, .int .i64 o.lo, .int .i64 o.c.kd, .string ⟨o.c.fam.toArray⟩, .int .i64 o.c.ser, .int .i64 o.c.tok, .string ⟨o.c.cli.toArray⟩, .string ⟨o.c.usr.toArray⟩, .slice ua o.c.sco.length uc, .string ⟨o.c.red.toArray⟩, .string ⟨o.c.cha.toArray⟩, .string ⟨o.c.met.toArray⟩, .string ⟨o.c.ver.toArray⟩, .bool o.c.rf, .int .i64 o.c.edg] 26)) := (Below.refl _ _).alloc (Nat.le_refl _) _
            obtain ⟨cB, hlx, hsl⟩ := one_op H17.out.1 HU0.out HOC.out
            unfold opC at hsl
            have HHWDb : Hid (NW cB w0 (WD.alloc (.cells #[.int .i64 o.ed, .int .i64 o.sq, .int .i64 o.lo, .int .i64 o.c.kd, .string ⟨o.c.fam.toArray⟩, .int .i64 o.c.ser, .int .i64 o.c.tok, .string ⟨o.c.cli.toArray⟩, .string ⟨o.c.usr.toArray⟩, .slice ua o.c.sco.length uc, .string ⟨o.c.red.toArray⟩, .string ⟨o.c.cha.toArray⟩, .string ⟨o.c.met.toArray⟩, .string ⟨o.c.ver.toArray⟩, .bool o.c.rf, .int .i64 o.c.edg] 26)) ∧ RV 0 cB (WD.alloc (.cells #[.int .i64 o.ed, .int .i64 o.sq, .int .i64 o.lo, .int .i64 o.c.kd, .string ⟨o.c.fam.toArray⟩, .int .i64 o.c.ser, .int .i64 o.c.tok, .string ⟨o.c.cli.toArray⟩, .string ⟨o.c.usr.toArray⟩, .slice ua o.c.sco.length uc, .string ⟨o.c.red.toArray⟩, .string ⟨o.c.cha.toArray⟩, .string ⟨o.c.met.toArray⟩, .string ⟨o.c.ver.toArray⟩, .bool o.c.rf, .int .i64 o.c.edg] 26)) p RR) := Lib.hid ⟨H17.out.1.below hlx hbX, H17.out.2.below hlx hbX⟩
            have HVB : Hid (SlR (opE 300) cB 304 (WD.alloc (.cells #[.int .i64 o.ed, .int .i64 o.sq, .int .i64 o.lo, .int .i64 o.c.kd, .string ⟨o.c.fam.toArray⟩, .int .i64 o.c.ser, .int .i64 o.c.tok, .string ⟨o.c.cli.toArray⟩, .string ⟨o.c.usr.toArray⟩, .slice ua o.c.sco.length uc, .string ⟨o.c.red.toArray⟩, .string ⟨o.c.cha.toArray⟩, .string ⟨o.c.met.toArray⟩, .string ⟨o.c.ver.toArray⟩, .bool o.c.rf, .int .i64 o.c.edg] 26)) (.slice (some ⟨WD.heap.size, 0, none⟩) 1 1) [o]) := Lib.hid hsl
            have HBX := Lib.hid hbX
            clear hbX hlx hsl
            refine hK.out _ _ ?_ (fun hHeld103 => ?_)
            · exact Lib.hid (HOB0.out.below HBX.out HOB0.out.lt)
            clear hK
            try simp only [Act.put, List.setIfInBounds_toArray, List.set_cons_zero, List.set_cons_succ]
            have HOB1 := Lib.hid (HOB0.out.below HBX.out HOB0.out.lt)
            generalize (WD.alloc (.cells #[.int .i64 o.ed, .int .i64 o.sq, .int .i64 o.lo, .int .i64 o.c.kd, .string ⟨o.c.fam.toArray⟩, .int .i64 o.c.ser, .int .i64 o.c.tok, .string ⟨o.c.cli.toArray⟩, .string ⟨o.c.usr.toArray⟩, .slice ua o.c.sco.length uc, .string ⟨o.c.red.toArray⟩, .string ⟨o.c.cha.toArray⟩, .string ⟨o.c.met.toArray⟩, .string ⟨o.c.ver.toArray⟩, .bool o.c.rf, .int .i64 o.c.edg] 26)) = WDb at *
            refine wpAnyH_ready (rs := [1]) (by kernel_rfl) (by simp) ?_
            refine (AllReadyH.cons (o := ?o7_1) ?h7_1 (fun K hK => ?s7_1) AllReadyH.nil)
            case h7_1 => (simp only [List.getElem?_toArray, List.getElem?_cons_succ, List.getElem?_cons_zero]; rfl)
            case s7_1 =>
              go_simp
              refine (ops_any (i := 0) p WDb HHWDb.out.2 (by rw [HKE.out]; simp)).mono ?_
              rintro e WDbo ⟨vX, rfl, hno, hbX⟩
              rw [HKE.out] at hno
              obtain ⟨aX, qX, eX⟩ := hno.slice
              subst eX
              obtain ⟨hlx, hrw⟩ := NewO.row hno cB 302 303
              have HHWDbo : Hid (NW (Lb.new cB WDb.heap.size (.slice aX [o].length qX) 302 303) w0 WDbo ∧ RV 0 (Lb.new cB WDb.heap.size (.slice aX [o].length qX) 302 303) WDbo p RR) := Lib.hid ⟨HHWDb.out.1.below hlx hbX, HHWDb.out.2.below hlx hbX⟩
              have HVA := Lib.hid hrw.sl
              have HBX := Lib.hid hbX
              have HLX := Lib.hid hlx
              have HVB2 := Lib.hid (HVB.out.keep (opE_ok 300) hlx fun j hj _ => hbX.block j hj)
              clear hno hbX hlx hrw
              go_wp2_with fail
              refine hK.out _ _ ?_ (fun hHeld107 => ?_)
              · exact Lib.hid (HOB1.out.below HBX.out HOB1.out.lt)
              clear hK
              try simp only [Act.put, List.setIfInBounds_toArray, List.set_cons_zero, List.set_cons_succ]
              have HOB2 := Lib.hid (HOB1.out.below HBX.out HOB1.out.lt)
              refine wpAnyH_ready (rs := [4]) (by kernel_rfl) (by simp) ?_
              refine (AllReadyH.cons (o := ?o8_4) ?h8_4 (fun K hK => ?s8_4) AllReadyH.nil)
              case h8_4 => (simp only [List.getElem?_toArray, List.getElem?_cons_succ, List.getElem?_cons_zero]; rfl)
              case s8_4 =>
                go_simp
                refine (ops_same [o] (.slice aX [o].length qX) (.slice (some ⟨WD.heap.size, 0, none⟩) 1 1) WDbo HVA.out HVB2.out (by simp)).mono ?_
                rintro e WZ ⟨rfl, hbZ⟩
                have HBZ := Lib.hid hbZ
                clear hbZ
                go_wp2_with fail
                refine hK.out _ _ ?_ (fun hHeld108 => ?_)
                · exact Lib.hid (HOB2.out.below HBZ.out HOB2.out.lt)
                clear hK
                try simp only [Act.put, List.setIfInBounds_toArray, List.set_cons_zero, List.set_cons_succ]
                refine wpAnyH_take (i := 5) (oi := ?oi9) (v := ?v9) ?hi9 (by kernel_rfl) (by kernel_rfl) (by kernel_rfl) ?hq9 ?hy9 (by assumption) ?rest9
                case hi9 => (simp only [List.getElem?_toArray, List.getElem?_cons_succ, List.getElem?_cons_zero]; rfl)
                case hq9 => exact fun _ _ _ h => h
                case hy9 => (refine Or.inl ⟨by rfl, ?_⟩; intro W hSw; (try dsimp only at hSw); go_simp; (try with_reducible rfl))
                try simp only [Act.put, List.setIfInBounds_toArray, List.set_cons_zero, List.set_cons_succ]
                refine wpAnyH_done (by kernel_rfl) ?_ _
                go_wp2_with fail
                go_ret
                exact ⟨rfl, HO.out.2.1.trans (((HHWDbo.out.1.b).trans (HBZ.out.mono HHWDbo.out.1.b.size)).mono HO.out.2.1.size)⟩
end Go.Proofs.YtdmjegelcdghlaaGreat.Vw
