/-
  Chapter 5, the program's Print. Conditions: fewer than 2^60 members; the table of powers of ten lies as its initialiser lays it.
  (Texts put together: Jo Jr.)
-/
import Derived.Test.YtffllacphfapnaaGreatDoorG28
import Derived.Lib.AppendIntMem
import Derived.Recover
namespace Go.Proofs.YtffllacphfapnaaGreatDoor
open Go.RowKit Js

theorem oth_blk {w w' : World} {b : Nat} {T : TypeId} {cs : List Value} (hT : T ≠ 5) (h : Blk w b T cs) (hk : Lib.OthersKept 5 none w w') : Blk w' b T cs :=
  hk b _ h (by simp) (fun c fz e => by cases e; exact hT rfl)
theorem RdM.front {W : World} {b o : Nat} {l : List Mb} {c : Nat} (h : RdM W (.slice (some ⟨b, o, none⟩) l.length c) l) (k : Nat) (hk : k ≤ l.length) : RdM W (.slice (some ⟨b, o, none⟩) k c) (l.take k) := by
  have hlen : (l.take k).length = k := by simp; omega
  refine ⟨mCells_length _, ?_⟩
  rw [hlen]
  rcases h.2 with ⟨⟨a, cap, e⟩, h0⟩ | ⟨b', o', cap, e, hc, hcells⟩
  · have hk0 : k = 0 := by omega
    subst hk0
    exact .inl ⟨⟨_, _, rfl⟩, rfl⟩
  · cases e
    refine .inr ⟨b, o, c, rfl, by omega, fun j u hj => hcells j u ?_⟩
    have e : mCells l = mCells (l.take k) ++ mCells (l.drop k) := by simp only [mCells]; rw [← List.flatMap_append, List.take_append_drop]
    rw [e, List.getElem?_append_left (List.getElem?_eq_some_iff.1 hj).1]
    exact hj

theorem below_step {B : Nat} {a w w' : World} (h : Below B a w) (hb : Below w.heap.size w w') (hB : B ≤ a.heap.size := by exact Nat.le_refl _) : Below B a w' := h.trans (hb.mono (Nat.le_trans hB h.size))
/-- what a region holds: a member's block -/
theorem keep_here {W w : World} {g B : Nat} {m : Mb} (h : Blk W g 50 (mc m)) (hB : Below B w W) : W.cell? ⟨g, 0, none⟩ = some (.string ⟨m.nm.toArray⟩) ∧ Blk W g 50 (mc m) ∧ g < W.heap.size ∧ Below B w W :=
  ⟨h.cell 0 rfl, h, h.lt, hB⟩
theorem keep_alloc {W w : World} {g B : Nat} {m : Mb} {o : Obj} (h : Blk W g 50 (mc m)) (hB : Below B w W) (hs : B ≤ W.heap.size) : (W.alloc o).cell? ⟨g, 0, none⟩ = some (.string ⟨m.nm.toArray⟩) ∧ Blk (W.alloc o) g 50 (mc m) ∧ g < (W.alloc o).heap.size ∧ Below B w (W.alloc o) :=
  keep_here (h.alloc o) (hB.alloc hs o)
theorem keep_allocD {W w : World} {g B : Nat} {m : Mb} {o : Obj} (h : Blk W.drew g 50 (mc m)) (hB : Below B w W.drew) (hs : B ≤ W.heap.size) : (W.alloc o).drew.cell? ⟨g, 0, none⟩ = some (.string ⟨m.nm.toArray⟩) ∧ Blk (W.alloc o).drew g 50 (mc m) ∧ g < (W.alloc o).drew.heap.size ∧ Below B w (W.alloc o).drew :=
  keep_here (W := (W.alloc o).drew) (h.alloc o) (Below.drew (Below.alloc (w := W) ⟨hB.os, hB.tape, hB.output, hB.size, hB.block⟩ hs o))
theorem keep_set5 {W w : World} {g b B : Nat} {m : Mb} {v0 v1 v2 v3 v4 : Value} (h : Blk W g 50 (mc m)) (hB : Below B w W) (hne : g ≠ b) (hb : B ≤ b) :
    (((((W.setCell ⟨b, 0, none⟩ v0).setCell ⟨b, 1, none⟩ v1).setCell ⟨b, 2, none⟩ v2).setCell ⟨b, 3, none⟩ v3).setCell ⟨b, 4, none⟩ v4).cell? ⟨g, 0, none⟩ = some (.string ⟨m.nm.toArray⟩) ∧
    Blk (((((W.setCell ⟨b, 0, none⟩ v0).setCell ⟨b, 1, none⟩ v1).setCell ⟨b, 2, none⟩ v2).setCell ⟨b, 3, none⟩ v3).setCell ⟨b, 4, none⟩ v4) g 50 (mc m) ∧
    g < (((((W.setCell ⟨b, 0, none⟩ v0).setCell ⟨b, 1, none⟩ v1).setCell ⟨b, 2, none⟩ v2).setCell ⟨b, 3, none⟩ v3).setCell ⟨b, 4, none⟩ v4).heap.size ∧
    Below B w (((((W.setCell ⟨b, 0, none⟩ v0).setCell ⟨b, 1, none⟩ v1).setCell ⟨b, 2, none⟩ v2).setCell ⟨b, 3, none⟩ v3).setCell ⟨b, 4, none⟩ v4) :=
  keep_here (((((h.setOther ⟨b, 0, none⟩ v0 hne).setOther ⟨b, 1, none⟩ v1 hne).setOther ⟨b, 2, none⟩ v2 hne).setOther ⟨b, 3, none⟩ v3 hne).setOther ⟨b, 4, none⟩ v4 hne) (((((hB.setCell hb _).setCell hb _).setCell hb _).setCell hb _).setCell hb _)
/-- Get, as a region that draws its order takes it -/
theorem get_open {v : Value} {l : List Mb} {nm : By} {w : World} {t : Bool} (ht : hasN l nm = t) (h : RdM w v l) (hm : l.length ≤ 1152921504606846976) :
    Calls Tryz.prog 16 #[v, .string ⟨nm.toArray⟩] w fun e w' => e = .returned (.tuple #[.agg #[.string ⟨(getM l nm).nm.toArray⟩, .int .i64 (getM l nm).kd, .string ⟨(getM l nm).tx.toArray⟩, .int .i64 (getM l nm).n, .bool (getM l nm).b], .bool t]) ∧ Below w.heap.size w w' := by
  subst ht; exact get_any v l nm w h hm

set_option maxRecDepth 20000 in
set_option maxHeartbeats 4000000 in
theorem print_any (v : Value) (l : List Mb) (w : World) (h : RdM w v l) (hf : Hid (fitL l)) (hm : l.length ≤ 1152921504606846976) (htab : Hid (Lib.TabIs Tryz.prog w "internal/strconv.uint64pow10" .u64 Lib.pow10Tab)) :
    Calls Tryz.prog 18 #[v] w fun e w' => e = .returned (.tuple #[.string ⟨(pr l).1.toArray⟩, .int .i64 (pr l).2]) ∧ Below w.heap.size w w' := by
  obtain ⟨a, c, rfl⟩ := h.slice
  have HR := Lib.hid h
  clear h
  have hnot := unary_not
  by_cases hlong : 64 < l.length
  · have HP := Lib.hid (pr_long hlong)
    have h2 : (64 : Int) < (l.length : Int) := by omega
    go_enter Tryz.func18, Tryz.ntmps18
    go_wp2
    go_ret2
    exact ⟨by rw [HP.out]; rfl, Below.refl _ _⟩
  obtain ⟨i0, hi, hz0, hz1, hz2⟩ := info_parts u8_row
  have HLo := Lib.hid hlong
  have HT := Lib.hid (Lib.tabBelow_of_tabIs htab.out)
  have h2 : ¬ (64 : Int) < (l.length : Int) := by omega
  clear hlong htab
  go_enter Tryz.func18, Tryz.ntmps18
  go_wp2
  go_loopw [16] (fun i wr => ∃ k : Nat, k ≤ l.length ∧ i = .int .i64 k ∧ Hid (good (l.take k)) ∧ Below w.heap.size w wr) (fun i _ => l.length - (intOf i).toNat)
  case atStart => exact ⟨0, by omega, rfl, Lib.hid (by rw [List.take_zero]; exact good_nil), Below.refl _ _⟩
  case round =>
    obtain ⟨k, hk, rfl, HG, hb⟩ := hrel
    by_cases hkl : k < l.length
    case neg =>
      have hgood : good l := by have := HG.out; rwa [List.take_of_length_le (by omega)] at this
      have HG2 := Lib.hid hgood
      clear hgood
      go_wp2
      clear hk hkl
      have hbx := hb
      clear hb
      have hown0 := own_mono (own_one wr (.int .u8 123)) hbx.size
      have hb0 := hbx.alloc hbx.size (.cells #[.int .u8 123] 5)
      go_loopw [8, 40] (fun v i wr => ∃ k : Nat, k ≤ l.length ∧ i = .int .i64 k ∧ wr.ownsRow w.heap.size 5 1 v (txt (l.take k)).length (Lib.byteCells (txt (l.take k))) ∧ Hid ((txt (l.take k)).length < 16384) ∧ Below w.heap.size w wr) (fun _ i _ => l.length - (intOf i).toNat)
      case atStart => exact ⟨0, by omega, rfl, own_cast hown0 (by rw [List.take_zero]; rfl) (by rw [List.take_zero]; rfl), Lib.hid (by rw [List.take_zero]; decide), hb0⟩
      case round =>
        clear hown0 hb0 hbx
        obtain ⟨k, hk, rfl, hown, HL, hb⟩ := hrel
        by_cases hkl : k < l.length
        case neg =>
          have ht : l.take k = l := List.take_of_length_le (by omega)
          rw [ht] at hown HL
          have hP := pr_ok HLo.out HG2.out HL.out
          have hl1 := HL.out
          have hcv := conv_own hown
          have had := st_add (txt l) [125] _ (by simp; omega) rfl
          have HP := Lib.hid hP
          obtain ⟨x1, hx1⟩ : ∃ x, x = txt l ++ [125] := ⟨_, rfl⟩
          rw [← hx1] at had
          have HX := Lib.hid hx1
          generalize txt l = T at hcv had
          clear hx1 hP ht hl1 hown
          go_wp2
          go_ret2
          exact ⟨by rw [HP.out, ← HX.out]; rfl, hb⟩
        case pos =>
        obtain ⟨b, o, cap, e1, hcap, q0, q1, q2, q3, q4⟩ := mc_cells (HR.out.below hb) k hkl
        cases e1
        have hrt := Lib.hid (HG2.out k hkl).2
        have hfm := Lib.hid (hf.out l[k] (List.getElem_mem _))
        have hgr := txt_grow hkl
        have hle := txt_le (l := l) (k := k + 1) (by omega)
        obtain ⟨x, hx⟩ : ∃ x, x = l[k] := ⟨_, rfl⟩
        rw [← hx] at q0 q1 q2 q3 q4 hrt hfm hgr
        clear hx
        obtain ⟨T, hT⟩ : ∃ T, T = txt (l.take k) := ⟨_, rfl⟩
        obtain ⟨T2, hT2⟩ : ∃ T, T = txt (l.take (k + 1)) := ⟨_, rfl⟩
        rw [← hT] at hgr HL hown
        rw [← hT2] at hgr hle
        have hTl := HL.out
        have HT2 := Lib.hid hT2
        have HLE := Lib.hid hle
        have HGR := Lib.hid hgr
        clear hT hT2 hle hgr
        have hbs := hb.size
        have hbM : Blk (wr.alloc (.cells #[.string ⟨x.nm.toArray⟩, .int .i64 x.kd, .string ⟨x.tx.toArray⟩, .int .i64 x.n, .bool x.b] 50)) wr.heap.size 50 (mc x) := Blk.new wr _ (mc x)
        have hbw : Below w.heap.size w (wr.alloc (.cells #[.string ⟨x.nm.toArray⟩, .int .i64 x.kd, .string ⟨x.tx.toArray⟩, .int .i64 x.n, .bool x.b] 50)) := hb.alloc hbs _
        have hownM : (wr.alloc (.cells #[.string ⟨x.nm.toArray⟩, .int .i64 x.kd, .string ⟨x.tx.toArray⟩, .int .i64 x.n, .bool x.b] 50)).ownsRow w.heap.size 5 1 _ T.length (Lib.byteCells T) := World.ownsRow.alloc hown _
        clear hown hb
        by_cases hk0 : k = 0
        · have hki : ¬ (0 : Int) < (k : Int) := by omega
          have HX2 : Hid (T2 = T ++ mt x ∧ T.length ≤ 16385) := Lib.hid ⟨by rw [HGR.out]; simp [hk0], by omega⟩
          clear hk0 HGR hTl
          have c0 := hbM.cell 0 rfl
          go_wp2_with fail
          refine (quote_own w.heap.size _ T x.nm _ hownM hbw.size 32768 (Lib.hid (by omega)) (Lib.hid (by have := HX2.out.2; omega)) hfm.out.1).mono ?_
          rintro e w3 ⟨v3, z, rfl, hown3, hb3, hok3, hqt3, hlen3⟩
          have hbM3 := oth_blk (by decide) hbM hok3
          have hbw3 := hbw.trans hb3
          obtain ⟨X3, hX3⟩ : ∃ XX, XX = T ++ z := ⟨_, rfl⟩
          have hl3 : X3.length ≤ 32778 := by rw [hX3, List.length_append]; exact hlen3
          have hown3' : w3.ownsRow w.heap.size 5 1 v3 X3.length (Lib.byteCells X3) := own_cast hown3 (by rw [hX3]) (by rw [hX3])
          have HX3 : Hid (X3 = T ++ z ∧ QtOk (T).length z x.nm) := Lib.hid ⟨hX3, hqt3⟩
          have HT3 := Lib.hid (HT.out.on hbw3)
          clear c0 hownM hown3 hbM hb3 hok3 hqt3 hlen3 hX3 hbw
          go_wp2_with (at_builtin; go_loud (refine wpList_append_own _ rfl _ _ 36 rfl w.heap.size 5 i0 (.int .u8 0) 1 1 Tryz.underlying36 hi hz0 hz1 hz2 rfl (by decide) _ _ _ rfl (hown3'.alloc _) ⟨w3.heap.size, 0, none⟩ 1 1 (Lib.byteCells [58]) rfl rfl (cells_new _ _ _) (byte_one _) ?c3 ?c4 ?c5 ?_))
          case c3 => unfold maxLen; omega
          case c4 => omega
          case c5 => have := hbw3.size; simp; omega
          intro v4 w4 hown4 hgrow hv0
          have hn := below_app hbw3 (Nat.le_trans (Nat.le_refl _) hbw3.size) hgrow (fun k hk => (hown3'.lt k hk).1)
          have hbM4 : Blk w4 wr.heap.size 50 (mc x) := oth_blk (by decide) hbM3 (oth_app (Lib.OthersKept.refl _ _ _) hown3' hgrow)
          have hown4' : w4.ownsRow w.heap.size 5 1 v4 (X3 ++ [58]).length (Lib.byteCells (X3 ++ [58])) := own_cast hown4 (by simp) (by rw [bc_append])
          have hbw4 := hn
          obtain ⟨X4, hX4⟩ : ∃ X, X = X3 ++ [58] := ⟨_, rfl⟩
          rw [← hX4] at hown4'
          have hl4 : X4.length ≤ 32779 := by rw [hX4]; simp; omega
          have HX4 := Lib.hid hX4
          have HT4 := Lib.hid (HT.out.on hbw4)
          clear hX4 hown4 hgrow hv0 hown3' hbM3 hbw3 hn hl3
          have c1 := hbM4.cell 1 rfl
          have c2 := hbM4.cell 2 rfl
          have c3 := hbM4.cell 3 rfl
          have c4 := hbM4.cell 4 rfl
          have HV : Hid ((x.kd = 0 → vt x = qt x.tx) ∧ (x.kd = 1 → vt x = Lib.itoa x.n) ∧ (x.kd = 2 → vt x = bt x.b)) := Lib.hid ⟨fun h => by unfold vt; rw [if_pos h], fun h => by unfold vt; rw [if_neg (by omega), if_pos h], fun h => by unfold vt; rw [if_neg (by omega), if_neg (by omega)]⟩
          have HY : ∀ (y : By) (Y : By), Y = X4 ++ y → (y = vt x ∨ (32768 < X4.length + y.length ∧ 32768 < X4.length + (vt x).length)) → Y = T2 ∨ (16384 ≤ Y.length ∧ 16384 ≤ T2.length) := by
            intro y Y hY hy
            have h1 := HX2.out.1
            have h2 := HX3.out.1
            have h3 := HX4.out
            have hm : mt x = qt x.nm ++ 58 :: vt x := rfl
            have hT2l := congrArg List.length h1
            rw [hm] at hT2l
            simp at hT2l
            rcases HX3.out.2 with hz | ⟨hz1, hz2⟩
            · have e4 : X4.length = (T).length + (qt x.nm).length + 1 := by rw [h3, h2, hz]; simp; omega
              rcases hy with hy | ⟨hy1, hy2⟩
              · left; rw [hY, h3, h2, hz, hy, h1, hm]; simp
              · right; refine ⟨by rw [hY, List.length_append]; omega, by omega⟩
            · right
              have e4 : X4.length = (T).length + z.length + 1 := by rw [h3, h2]; simp; omega
              refine ⟨by rw [hY, List.length_append]; omega, by omega⟩
          have HYH := Lib.hid HY
          clear HY
          have hkk : x.kd = 0 ∨ x.kd = 1 ∨ x.kd = 2 := by
            rcases rt_kinds hrt.out with h | h | h
            · exact .inl h.1
            · exact .inr (.inl h.1)
            · exact .inr (.inr h.1)
          rcases hkk with hkd | hkd | hkd
          · have HVX := Lib.hid (HV.out.1 hkd)
            rw [hkd] at c1
            clear hkd
            go_wp2_with fail
            refine (quote_own w.heap.size _ X4 x.tx _ hown4' hbw4.size 32779 (Lib.hid (by omega)) (Lib.hid (by omega)) hfm.out.2.1).mono ?_
            rintro e w5 ⟨v5, y, rfl, hown5, hb5, hok5, hqt5, hlen5⟩
            have hown6 := hown5
            have hYY : Hid (y = vt x ∨ (32768 < X4.length + y.length ∧ 32768 < X4.length + (vt x).length)) := Lib.hid (by rw [HVX.out]; exact hqt5)
            clear hown5 hqt5 hok5 hlen5
            obtain ⟨Y, hY⟩ : ∃ Y, Y = X4 ++ y := ⟨_, rfl⟩
            have HYF := Lib.hid (HYH.out y Y hY hYY.out)
            rw [← hY] at hown6
            have hb6 := hbw4.trans hb5
            obtain ⟨a6, c6, hv6⟩ := (Rd.of_own hown6).slice
            subst hv6
            clear hY hb5 hown4' hbw4 hbM4 c1 c2 c3 c4
            by_cases hbig : (16384 : Int) ≤ (Y.length : Int)
            · have HP := Lib.hid (pr_big HLo.out HG2.out (by
                have h1 := HLE.out
                rcases HYF.out with h2 | ⟨_, h2⟩
                · rw [h2] at hbig; omega
                · omega))
              go_wp2
              go_ret2
              exact ⟨by rw [HP.out]; rfl, hb6⟩
            · have hYT : Y = T2 := by
                rcases HYF.out with h2 | ⟨h2, _⟩
                · exact h2
                · omega
              have HYT := Lib.hid hYT
              have hbig' : decide ((16384 : Int) ≤ (Y.length : Int)) = false := by simpa using hbig
              have hownN : w5.ownsRow w.heap.size 5 1 (.slice a6 Y.length c6) (txt (l.take (k + 1))).length (Lib.byteCells (txt (l.take (k + 1)))) := own_cast hown6 (by rw [HYT.out, HT2.out]) (by rw [HYT.out, HT2.out])
              have hsm : Hid ((txt (l.take (k + 1))).length < 16384) := Lib.hid (by rw [← HT2.out, ← HYT.out]; omega)
              clear hYT hown6
              go_wp2
              go_roundw
              case rel => exact ⟨k + 1, by omega, by go_num, hownN, hsm, hb6⟩
              case measure => simp [intOf]; omega
          · have HVX := Lib.hid (HV.out.2.1 hkd)
            rw [hkd] at c1
            clear hkd
            go_wp2_with fail
            refine (Tryz.strconv_AppendInt_10 w.heap.size X4.length x.n hfm.out.2.2.1 hfm.out.2.2.2 _ (Lib.byteCells X4) _ hown4' hbw4.size (by omega) HT4.out).mono ?_
            rintro e w5 ⟨v5, rfl, hown5, hb5, hok5⟩
            obtain ⟨y, hy⟩ : ∃ y, y = Lib.itoa x.n := ⟨_, rfl⟩
            have hown6 : w5.ownsRow w.heap.size 5 1 v5 (X4 ++ y).length (Lib.byteCells (X4 ++ y)) := own_cast hown5 (by rw [hy]; simp) (by rw [hy, bc_append])
            have hYY : Hid (y = vt x ∨ (32768 < X4.length + y.length ∧ 32768 < X4.length + (vt x).length)) := Lib.hid (by rw [HVX.out]; exact .inl hy)
            clear hown5 hok5 hy
            obtain ⟨Y, hY⟩ : ∃ Y, Y = X4 ++ y := ⟨_, rfl⟩
            have HYF := Lib.hid (HYH.out y Y hY hYY.out)
            rw [← hY] at hown6
            have hb6 := hbw4.trans hb5
            obtain ⟨a6, c6, hv6⟩ := (Rd.of_own hown6).slice
            subst hv6
            clear hY hb5 hown4' hbw4 hbM4 c1 c2 c3 c4
            by_cases hbig : (16384 : Int) ≤ (Y.length : Int)
            · have HP := Lib.hid (pr_big HLo.out HG2.out (by
                have h1 := HLE.out
                rcases HYF.out with h2 | ⟨_, h2⟩
                · rw [h2] at hbig; omega
                · omega))
              go_wp2
              go_ret2
              exact ⟨by rw [HP.out]; rfl, hb6⟩
            · have hYT : Y = T2 := by
                rcases HYF.out with h2 | ⟨h2, _⟩
                · exact h2
                · omega
              have HYT := Lib.hid hYT
              have hbig' : decide ((16384 : Int) ≤ (Y.length : Int)) = false := by simpa using hbig
              have hownN : w5.ownsRow w.heap.size 5 1 (.slice a6 Y.length c6) (txt (l.take (k + 1))).length (Lib.byteCells (txt (l.take (k + 1)))) := own_cast hown6 (by rw [HYT.out, HT2.out]) (by rw [HYT.out, HT2.out])
              have hsm : Hid ((txt (l.take (k + 1))).length < 16384) := Lib.hid (by rw [← HT2.out, ← HYT.out]; omega)
              clear hYT hown6
              go_wp2
              go_roundw
              case rel => exact ⟨k + 1, by omega, by go_num, hownN, hsm, hb6⟩
              case measure => simp [intOf]; omega
          · have HVX := Lib.hid (HV.out.2.2 hkd)
            rw [hkd] at c1
            clear hkd
            go_wp2_with fail
            refine (appbool_own w.heap.size _ X4 x.b _ hown4' hbw4.size (by omega)).mono ?_
            rintro e w5 ⟨v5, rfl, hown5, hb5, hok5⟩
            obtain ⟨y, hy⟩ : ∃ y, y = bt x.b := ⟨_, rfl⟩
            have hown6 : w5.ownsRow w.heap.size 5 1 v5 (X4 ++ y).length (Lib.byteCells (X4 ++ y)) := own_cast hown5 (by rw [hy]) (by rw [hy])
            have hYY : Hid (y = vt x ∨ (32768 < X4.length + y.length ∧ 32768 < X4.length + (vt x).length)) := Lib.hid (by rw [HVX.out]; exact .inl hy)
            clear hown5 hok5 hy
            obtain ⟨Y, hY⟩ : ∃ Y, Y = X4 ++ y := ⟨_, rfl⟩
            have HYF := Lib.hid (HYH.out y Y hY hYY.out)
            rw [← hY] at hown6
            have hb6 := hbw4.trans hb5
            obtain ⟨a6, c6, hv6⟩ := (Rd.of_own hown6).slice
            subst hv6
            clear hY hb5 hown4' hbw4 hbM4 c1 c2 c3 c4
            by_cases hbig : (16384 : Int) ≤ (Y.length : Int)
            · have HP := Lib.hid (pr_big HLo.out HG2.out (by
                have h1 := HLE.out
                rcases HYF.out with h2 | ⟨_, h2⟩
                · rw [h2] at hbig; omega
                · omega))
              go_wp2
              go_ret2
              exact ⟨by rw [HP.out]; rfl, hb6⟩
            · have hYT : Y = T2 := by
                rcases HYF.out with h2 | ⟨h2, _⟩
                · exact h2
                · omega
              have HYT := Lib.hid hYT
              have hbig' : decide ((16384 : Int) ≤ (Y.length : Int)) = false := by simpa using hbig
              have hownN : w5.ownsRow w.heap.size 5 1 (.slice a6 Y.length c6) (txt (l.take (k + 1))).length (Lib.byteCells (txt (l.take (k + 1)))) := own_cast hown6 (by rw [HYT.out, HT2.out]) (by rw [HYT.out, HT2.out])
              have hsm : Hid ((txt (l.take (k + 1))).length < 16384) := Lib.hid (by rw [← HT2.out, ← HYT.out]; omega)
              clear hYT hown6
              go_wp2
              go_roundw
              case rel => exact ⟨k + 1, by omega, by go_num, hownN, hsm, hb6⟩
              case measure => simp [intOf]; omega
        · have hki : (0 : Int) < (k : Int) := by omega
          go_wp2_with (at_builtin; go_loud (refine wpList_append_own _ rfl _ _ 36 rfl w.heap.size 5 i0 (.int .u8 0) 1 1 Tryz.underlying36 hi hz0 hz1 hz2 rfl (by decide) _ _ _ rfl (hownM.alloc _) ⟨wr.heap.size + 1, 0, none⟩ 1 1 (Lib.byteCells [44]) rfl rfl (cells_at _ _ _ _ (by simp)) (byte_one _) ?c3 ?c4 ?c5 ?_))
          case c3 => unfold maxLen; omega
          case c4 => omega
          case c5 => have := hbw.size; simp; omega
          intro v' w1 hown' hgrow hv0
          have hn := below_app hbw (Nat.le_trans (Nat.le_refl _) hbw.size) hgrow (fun k hk => (hownM.lt k hk).1)
          have hbM2 : Blk w1 wr.heap.size 50 (mc x) := oth_blk (by decide) (hbM) (oth_app (Lib.OthersKept.refl _ _ _) hownM hgrow)
          have hownM2 : w1.ownsRow w.heap.size 5 1 v' (T ++ [44]).length (Lib.byteCells (T ++ [44])) := own_cast hown' (by simp) (by rw [bc_append])
          obtain ⟨X, hX⟩ : ∃ X, X = T ++ [44] := ⟨_, rfl⟩
          rw [← hX] at hownM2
          have HX2 : Hid (T2 = X ++ mt x ∧ X.length ≤ 16385) := Lib.hid ⟨by rw [HGR.out, hX]; simp [hk0], by rw [hX]; simp; omega⟩
          clear hX hown' hgrow hv0 hownM hbM hbw HGR hk0 hTl
          have hownM := hownM2
          have hbM := hbM2
          have hbw := hn
          clear hownM2 hbM2 hn
          have c0 := hbM.cell 0 rfl
          go_wp2_with fail
          refine (quote_own w.heap.size _ X x.nm _ hownM hbw.size 32768 (Lib.hid (by omega)) (Lib.hid (by have := HX2.out.2; omega)) hfm.out.1).mono ?_
          rintro e w3 ⟨v3, z, rfl, hown3, hb3, hok3, hqt3, hlen3⟩
          have hbM3 := oth_blk (by decide) hbM hok3
          have hbw3 := hbw.trans hb3
          obtain ⟨X3, hX3⟩ : ∃ XX, XX = X ++ z := ⟨_, rfl⟩
          have hl3 : X3.length ≤ 32778 := by rw [hX3, List.length_append]; exact hlen3
          have hown3' : w3.ownsRow w.heap.size 5 1 v3 X3.length (Lib.byteCells X3) := own_cast hown3 (by rw [hX3]) (by rw [hX3])
          have HX3 : Hid (X3 = X ++ z ∧ QtOk (X).length z x.nm) := Lib.hid ⟨hX3, hqt3⟩
          have HT3 := Lib.hid (HT.out.on hbw3)
          clear c0 hownM hown3 hbM hb3 hok3 hqt3 hlen3 hX3 hbw
          go_wp2_with (at_builtin; go_loud (refine wpList_append_own _ rfl _ _ 36 rfl w.heap.size 5 i0 (.int .u8 0) 1 1 Tryz.underlying36 hi hz0 hz1 hz2 rfl (by decide) _ _ _ rfl (hown3'.alloc _) ⟨w3.heap.size, 0, none⟩ 1 1 (Lib.byteCells [58]) rfl rfl (cells_new _ _ _) (byte_one _) ?c3 ?c4 ?c5 ?_))
          case c3 => unfold maxLen; omega
          case c4 => omega
          case c5 => have := hbw3.size; simp; omega
          intro v4 w4 hown4 hgrow hv0
          have hn := below_app hbw3 (Nat.le_trans (Nat.le_refl _) hbw3.size) hgrow (fun k hk => (hown3'.lt k hk).1)
          have hbM4 : Blk w4 wr.heap.size 50 (mc x) := oth_blk (by decide) hbM3 (oth_app (Lib.OthersKept.refl _ _ _) hown3' hgrow)
          have hown4' : w4.ownsRow w.heap.size 5 1 v4 (X3 ++ [58]).length (Lib.byteCells (X3 ++ [58])) := own_cast hown4 (by simp) (by rw [bc_append])
          have hbw4 := hn
          obtain ⟨X4, hX4⟩ : ∃ X, X = X3 ++ [58] := ⟨_, rfl⟩
          rw [← hX4] at hown4'
          have hl4 : X4.length ≤ 32779 := by rw [hX4]; simp; omega
          have HX4 := Lib.hid hX4
          have HT4 := Lib.hid (HT.out.on hbw4)
          clear hX4 hown4 hgrow hv0 hown3' hbM3 hbw3 hn hl3
          have c1 := hbM4.cell 1 rfl
          have c2 := hbM4.cell 2 rfl
          have c3 := hbM4.cell 3 rfl
          have c4 := hbM4.cell 4 rfl
          have HV : Hid ((x.kd = 0 → vt x = qt x.tx) ∧ (x.kd = 1 → vt x = Lib.itoa x.n) ∧ (x.kd = 2 → vt x = bt x.b)) := Lib.hid ⟨fun h => by unfold vt; rw [if_pos h], fun h => by unfold vt; rw [if_neg (by omega), if_pos h], fun h => by unfold vt; rw [if_neg (by omega), if_neg (by omega)]⟩
          have HY : ∀ (y : By) (Y : By), Y = X4 ++ y → (y = vt x ∨ (32768 < X4.length + y.length ∧ 32768 < X4.length + (vt x).length)) → Y = T2 ∨ (16384 ≤ Y.length ∧ 16384 ≤ T2.length) := by
            intro y Y hY hy
            have h1 := HX2.out.1
            have h2 := HX3.out.1
            have h3 := HX4.out
            have hm : mt x = qt x.nm ++ 58 :: vt x := rfl
            have hT2l := congrArg List.length h1
            rw [hm] at hT2l
            simp at hT2l
            rcases HX3.out.2 with hz | ⟨hz1, hz2⟩
            · have e4 : X4.length = (X).length + (qt x.nm).length + 1 := by rw [h3, h2, hz]; simp; omega
              rcases hy with hy | ⟨hy1, hy2⟩
              · left; rw [hY, h3, h2, hz, hy, h1, hm]; simp
              · right; refine ⟨by rw [hY, List.length_append]; omega, by omega⟩
            · right
              have e4 : X4.length = (X).length + z.length + 1 := by rw [h3, h2]; simp; omega
              refine ⟨by rw [hY, List.length_append]; omega, by omega⟩
          have HYH := Lib.hid HY
          clear HY
          have hkk : x.kd = 0 ∨ x.kd = 1 ∨ x.kd = 2 := by
            rcases rt_kinds hrt.out with h | h | h
            · exact .inl h.1
            · exact .inr (.inl h.1)
            · exact .inr (.inr h.1)
          rcases hkk with hkd | hkd | hkd
          · have HVX := Lib.hid (HV.out.1 hkd)
            rw [hkd] at c1
            clear hkd
            go_wp2_with fail
            refine (quote_own w.heap.size _ X4 x.tx _ hown4' hbw4.size 32779 (Lib.hid (by omega)) (Lib.hid (by omega)) hfm.out.2.1).mono ?_
            rintro e w5 ⟨v5, y, rfl, hown5, hb5, hok5, hqt5, hlen5⟩
            have hown6 := hown5
            have hYY : Hid (y = vt x ∨ (32768 < X4.length + y.length ∧ 32768 < X4.length + (vt x).length)) := Lib.hid (by rw [HVX.out]; exact hqt5)
            clear hown5 hqt5 hok5 hlen5
            obtain ⟨Y, hY⟩ : ∃ Y, Y = X4 ++ y := ⟨_, rfl⟩
            have HYF := Lib.hid (HYH.out y Y hY hYY.out)
            rw [← hY] at hown6
            have hb6 := hbw4.trans hb5
            obtain ⟨a6, c6, hv6⟩ := (Rd.of_own hown6).slice
            subst hv6
            clear hY hb5 hown4' hbw4 hbM4 c1 c2 c3 c4
            by_cases hbig : (16384 : Int) ≤ (Y.length : Int)
            · have HP := Lib.hid (pr_big HLo.out HG2.out (by
                have h1 := HLE.out
                rcases HYF.out with h2 | ⟨_, h2⟩
                · rw [h2] at hbig; omega
                · omega))
              go_wp2
              go_ret2
              exact ⟨by rw [HP.out]; rfl, hb6⟩
            · have hYT : Y = T2 := by
                rcases HYF.out with h2 | ⟨h2, _⟩
                · exact h2
                · omega
              have HYT := Lib.hid hYT
              have hbig' : decide ((16384 : Int) ≤ (Y.length : Int)) = false := by simpa using hbig
              have hownN : w5.ownsRow w.heap.size 5 1 (.slice a6 Y.length c6) (txt (l.take (k + 1))).length (Lib.byteCells (txt (l.take (k + 1)))) := own_cast hown6 (by rw [HYT.out, HT2.out]) (by rw [HYT.out, HT2.out])
              have hsm : Hid ((txt (l.take (k + 1))).length < 16384) := Lib.hid (by rw [← HT2.out, ← HYT.out]; omega)
              clear hYT hown6
              go_wp2
              go_roundw
              case rel => exact ⟨k + 1, by omega, by go_num, hownN, hsm, hb6⟩
              case measure => simp [intOf]; omega
          · have HVX := Lib.hid (HV.out.2.1 hkd)
            rw [hkd] at c1
            clear hkd
            go_wp2_with fail
            refine (Tryz.strconv_AppendInt_10 w.heap.size X4.length x.n hfm.out.2.2.1 hfm.out.2.2.2 _ (Lib.byteCells X4) _ hown4' hbw4.size (by omega) HT4.out).mono ?_
            rintro e w5 ⟨v5, rfl, hown5, hb5, hok5⟩
            obtain ⟨y, hy⟩ : ∃ y, y = Lib.itoa x.n := ⟨_, rfl⟩
            have hown6 : w5.ownsRow w.heap.size 5 1 v5 (X4 ++ y).length (Lib.byteCells (X4 ++ y)) := own_cast hown5 (by rw [hy]; simp) (by rw [hy, bc_append])
            have hYY : Hid (y = vt x ∨ (32768 < X4.length + y.length ∧ 32768 < X4.length + (vt x).length)) := Lib.hid (by rw [HVX.out]; exact .inl hy)
            clear hown5 hok5 hy
            obtain ⟨Y, hY⟩ : ∃ Y, Y = X4 ++ y := ⟨_, rfl⟩
            have HYF := Lib.hid (HYH.out y Y hY hYY.out)
            rw [← hY] at hown6
            have hb6 := hbw4.trans hb5
            obtain ⟨a6, c6, hv6⟩ := (Rd.of_own hown6).slice
            subst hv6
            clear hY hb5 hown4' hbw4 hbM4 c1 c2 c3 c4
            by_cases hbig : (16384 : Int) ≤ (Y.length : Int)
            · have HP := Lib.hid (pr_big HLo.out HG2.out (by
                have h1 := HLE.out
                rcases HYF.out with h2 | ⟨_, h2⟩
                · rw [h2] at hbig; omega
                · omega))
              go_wp2
              go_ret2
              exact ⟨by rw [HP.out]; rfl, hb6⟩
            · have hYT : Y = T2 := by
                rcases HYF.out with h2 | ⟨h2, _⟩
                · exact h2
                · omega
              have HYT := Lib.hid hYT
              have hbig' : decide ((16384 : Int) ≤ (Y.length : Int)) = false := by simpa using hbig
              have hownN : w5.ownsRow w.heap.size 5 1 (.slice a6 Y.length c6) (txt (l.take (k + 1))).length (Lib.byteCells (txt (l.take (k + 1)))) := own_cast hown6 (by rw [HYT.out, HT2.out]) (by rw [HYT.out, HT2.out])
              have hsm : Hid ((txt (l.take (k + 1))).length < 16384) := Lib.hid (by rw [← HT2.out, ← HYT.out]; omega)
              clear hYT hown6
              go_wp2
              go_roundw
              case rel => exact ⟨k + 1, by omega, by go_num, hownN, hsm, hb6⟩
              case measure => simp [intOf]; omega
          · have HVX := Lib.hid (HV.out.2.2 hkd)
            rw [hkd] at c1
            clear hkd
            go_wp2_with fail
            refine (appbool_own w.heap.size _ X4 x.b _ hown4' hbw4.size (by omega)).mono ?_
            rintro e w5 ⟨v5, rfl, hown5, hb5, hok5⟩
            obtain ⟨y, hy⟩ : ∃ y, y = bt x.b := ⟨_, rfl⟩
            have hown6 : w5.ownsRow w.heap.size 5 1 v5 (X4 ++ y).length (Lib.byteCells (X4 ++ y)) := own_cast hown5 (by rw [hy]) (by rw [hy])
            have hYY : Hid (y = vt x ∨ (32768 < X4.length + y.length ∧ 32768 < X4.length + (vt x).length)) := Lib.hid (by rw [HVX.out]; exact .inl hy)
            clear hown5 hok5 hy
            obtain ⟨Y, hY⟩ : ∃ Y, Y = X4 ++ y := ⟨_, rfl⟩
            have HYF := Lib.hid (HYH.out y Y hY hYY.out)
            rw [← hY] at hown6
            have hb6 := hbw4.trans hb5
            obtain ⟨a6, c6, hv6⟩ := (Rd.of_own hown6).slice
            subst hv6
            clear hY hb5 hown4' hbw4 hbM4 c1 c2 c3 c4
            by_cases hbig : (16384 : Int) ≤ (Y.length : Int)
            · have HP := Lib.hid (pr_big HLo.out HG2.out (by
                have h1 := HLE.out
                rcases HYF.out with h2 | ⟨_, h2⟩
                · rw [h2] at hbig; omega
                · omega))
              go_wp2
              go_ret2
              exact ⟨by rw [HP.out]; rfl, hb6⟩
            · have hYT : Y = T2 := by
                rcases HYF.out with h2 | ⟨h2, _⟩
                · exact h2
                · omega
              have HYT := Lib.hid hYT
              have hbig' : decide ((16384 : Int) ≤ (Y.length : Int)) = false := by simpa using hbig
              have hownN : w5.ownsRow w.heap.size 5 1 (.slice a6 Y.length c6) (txt (l.take (k + 1))).length (Lib.byteCells (txt (l.take (k + 1)))) := own_cast hown6 (by rw [HYT.out, HT2.out]) (by rw [HYT.out, HT2.out])
              have hsm : Hid ((txt (l.take (k + 1))).length < 16384) := Lib.hid (by rw [← HT2.out, ← HYT.out]; omega)
              clear hYT hown6
              go_wp2
              go_roundw
              case rel => exact ⟨k + 1, by omega, by go_num, hownN, hsm, hb6⟩
              case measure => simp [intOf]; omega
    case pos =>
    obtain ⟨b, o, cap, e1, hcap, q0, q1, q2, q3, q4⟩ := mc_cells (HR.out.below hb) k hkl
    cases e1
    have HRK : Hid (∀ W, Below w.heap.size w W → RdM W (.slice (some ⟨b, o, none⟩) k c) (l.take k)) := Lib.hid fun W hW => (HR.out.front k hk).below hW
    obtain ⟨x, hx⟩ : ∃ x, x = l[k] := ⟨_, rfl⟩
    have HX := Lib.hid hx
    rw [← hx] at q0 q1 q2 q3 q4
    clear hx
    have hbs := hb.size
    have hbM : Blk (wr.alloc (.cells #[.string ⟨x.nm.toArray⟩, .int .i64 x.kd, .string ⟨x.tx.toArray⟩, .int .i64 x.n, .bool x.b] 50)).drew wr.heap.size 50 (mc x) := Blk.new wr _ (mc x)
    have hbw : Below w.heap.size w (wr.alloc (.cells #[.string ⟨x.nm.toArray⟩, .int .i64 x.kd, .string ⟨x.tx.toArray⟩, .int .i64 x.n, .bool x.b] 50)).drew := (hb.alloc hbs _).drew
    have hm0 : (wr.alloc (.cells #[.string ⟨x.nm.toArray⟩, .int .i64 x.kd, .string ⟨x.tx.toArray⟩, .int .i64 x.n, .bool x.b] 50)).drew.cell? ⟨wr.heap.size, 0, none⟩ = some (.string ⟨x.nm.toArray⟩) := hbM.cell 0 rfl
    have hltM : wr.heap.size < (wr.alloc (.cells #[.string ⟨x.nm.toArray⟩, .int .i64 x.kd, .string ⟨x.tx.toArray⟩, .int .i64 x.n, .bool x.b] 50)).drew.heap.size := by show wr.heap.size < (wr.alloc _).heap.size; simp
    have hNew : Blk ((wr.alloc (.cells #[.string ⟨x.nm.toArray⟩, .int .i64 x.kd, .string ⟨x.tx.toArray⟩, .int .i64 x.n, .bool x.b] 50)).alloc (.cells #[.string ⟨#[]⟩, .int .i64 0, .string ⟨#[]⟩, .int .i64 0, .bool false] 50)).drew (wr.heap.size + 1) 50 (mc zm) := by
      have h := Blk.new (wr.alloc (.cells #[.string ⟨x.nm.toArray⟩, .int .i64 x.kd, .string ⟨x.tx.toArray⟩, .int .i64 x.n, .bool x.b] 50)) 50 (mc zm)
      rw [World.size_alloc] at h
      exact h
    have hNewLt : wr.heap.size + 1 < ((wr.alloc (.cells #[.string ⟨x.nm.toArray⟩, .int .i64 x.kd, .string ⟨x.tx.toArray⟩, .int .i64 x.n, .bool x.b] 50)).alloc (.cells #[.string ⟨#[]⟩, .int .i64 0, .string ⟨#[]⟩, .int .i64 0, .bool false] 50)).drew.heap.size := by show _ < ((wr.alloc _).alloc _).heap.size; simp
    have HNew := Lib.hid (And.intro hNew hNewLt)
    clear hNew hNewLt
    have htl : (l.take k).length ≤ 1152921504606846976 := by simp; omega
    have HTL := Lib.hid htl
    have k0 : (0 : Int) ≤ (k : Int) := by omega
    have hkc : (k : Int) ≤ (c : Int) := by omega
    have hkc2 : k ≤ c := by omega
    clear htl
    cases hh : hasN (l.take k) x.nm with
    | true =>
      have HH := Lib.hid hh
      have HP := Lib.hid (pr_bad HLo.out (bad_at hkl (.inl (by rw [← HX.out]; exact hh))))
      clear hh
      go_wp2_with fail
      go_region_held3 (fun W => W.cell? ⟨wr.heap.size, 0, none⟩ = some (.string ⟨x.nm.toArray⟩) ∧ Blk W wr.heap.size 50 (mc x) ∧ wr.heap.size < W.heap.size ∧ Below w.heap.size w W)
        (first | with_reducible exact ⟨hm0, hbM, hltM, hbw⟩ | (go_split_ands; first | (with_reducible exact keep_here (by assumption) (by assumption)) | (with_reducible exact keep_set5 (by assumption) (by assumption) (by omega) (by omega)) | (with_reducible exact keep_allocD (by assumption) (by assumption) (by simp; omega)) | (with_reducible exact keep_alloc (by assumption) (by assumption) (by omega))))
        (first | (go_split_ands; go_at_call 16; refine (get_open HH.out (HRK.out _ (by assumption)) HTL.out).mono ?_; rintro e w2 ⟨rfl, hb2⟩; have hbp2 : Blk w2 wr.heap.size 50 (mc x) := Blk.below (by assumption) hb2 (by assumption); have hbB2 : Below w.heap.size w w2 := below_step (by assumption) hb2; have hlt2 : wr.heap.size < w2.heap.size := Nat.lt_of_lt_of_le (by assumption) hb2.size; (first | (have hbk := Blk.below HNew.out.1 hb2 HNew.out.2; have z0 := hbk.cell 0 rfl; have z1 := hbk.cell 1 rfl; have z2 := hbk.cell 2 rfl; have z3 := hbk.cell 3 rfl; have z4 := hbk.cell 4 rfl; have f0 := hbk.frozen 0; have f1 := hbk.frozen 1; have f2 := hbk.frozen 2; have f3 := hbk.frozen 3; have f4 := hbk.frozen 4) | skip)))
      all_goals
        go_split_ands
        go_wp2
        go_ret2
        exact ⟨by rw [HP.out]; rfl, by assumption⟩
    | false =>
      have HH := Lib.hid hh
      clear hh
      cases hr : rt x with
      | false =>
        have HP := Lib.hid (pr_bad HLo.out (bad_at hkl (.inr (by rw [← HX.out]; exact hr))))
        have hcall := fun w => right_any x w
        rw [hr] at hcall
        clear hr
        go_wp2_with fail
        go_region_held3 (fun W => W.cell? ⟨wr.heap.size, 0, none⟩ = some (.string ⟨x.nm.toArray⟩) ∧ Blk W wr.heap.size 50 (mc x) ∧ wr.heap.size < W.heap.size ∧ Below w.heap.size w W)
          (first | with_reducible exact ⟨hm0, hbM, hltM, hbw⟩ | (go_split_ands; first | (with_reducible exact keep_here (by assumption) (by assumption)) | (with_reducible exact keep_set5 (by assumption) (by assumption) (by omega) (by omega)) | (with_reducible exact keep_allocD (by assumption) (by assumption) (by simp; omega)) | (with_reducible exact keep_alloc (by assumption) (by assumption) (by omega))))
          (first | (go_split_ands; go_at_call 16; refine (get_open HH.out (HRK.out _ (by assumption)) HTL.out).mono ?_; rintro e w2 ⟨rfl, hb2⟩; have hbp2 : Blk w2 wr.heap.size 50 (mc x) := Blk.below (by assumption) hb2 (by assumption); have hbB2 : Below w.heap.size w w2 := below_step (by assumption) hb2; have hlt2 : wr.heap.size < w2.heap.size := Nat.lt_of_lt_of_le (by assumption) hb2.size; (first | (have hbk := Blk.below HNew.out.1 hb2 HNew.out.2; have z0 := hbk.cell 0 rfl; have z1 := hbk.cell 1 rfl; have z2 := hbk.cell 2 rfl; have z3 := hbk.cell 3 rfl; have z4 := hbk.cell 4 rfl; have f0 := hbk.frozen 0; have f1 := hbk.frozen 1; have f2 := hbk.frozen 2; have f3 := hbk.frozen 3; have f4 := hbk.frozen 4) | skip)))
        all_goals
          go_split_ands
          rename_i s1 hbl s3 hbB
          have d0 := hbl.cell 0 rfl
          have d1 := hbl.cell 1 rfl
          have d2 := hbl.cell 2 rfl
          have d3 := hbl.cell 3 rfl
          have d4 := hbl.cell 4 rfl
          go_wp2_with fail
          refine (hcall _).mono ?_
          rintro e w5 ⟨rfl, hb5⟩
          go_wp2
          go_ret2
          exact ⟨by rw [HP.out]; rfl, below_step hbB hb5⟩
      | true =>
        have hcall := fun w => right_any x w
        rw [hr] at hcall
        have HGN := Lib.hid (good_grow hkl HG.out (by rw [← HX.out]; exact HH.out) (by rw [← HX.out]; exact hr))
        clear hr
        go_wp2_with fail
        go_region_held3 (fun W => W.cell? ⟨wr.heap.size, 0, none⟩ = some (.string ⟨x.nm.toArray⟩) ∧ Blk W wr.heap.size 50 (mc x) ∧ wr.heap.size < W.heap.size ∧ Below w.heap.size w W)
          (first | with_reducible exact ⟨hm0, hbM, hltM, hbw⟩ | (go_split_ands; first | (with_reducible exact keep_here (by assumption) (by assumption)) | (with_reducible exact keep_set5 (by assumption) (by assumption) (by omega) (by omega)) | (with_reducible exact keep_allocD (by assumption) (by assumption) (by simp; omega)) | (with_reducible exact keep_alloc (by assumption) (by assumption) (by omega))))
          (first | (go_split_ands; go_at_call 16; refine (get_open HH.out (HRK.out _ (by assumption)) HTL.out).mono ?_; rintro e w2 ⟨rfl, hb2⟩; have hbp2 : Blk w2 wr.heap.size 50 (mc x) := Blk.below (by assumption) hb2 (by assumption); have hbB2 : Below w.heap.size w w2 := below_step (by assumption) hb2; have hlt2 : wr.heap.size < w2.heap.size := Nat.lt_of_lt_of_le (by assumption) hb2.size; (first | (have hbk := Blk.below HNew.out.1 hb2 HNew.out.2; have z0 := hbk.cell 0 rfl; have z1 := hbk.cell 1 rfl; have z2 := hbk.cell 2 rfl; have z3 := hbk.cell 3 rfl; have z4 := hbk.cell 4 rfl; have f0 := hbk.frozen 0; have f1 := hbk.frozen 1; have f2 := hbk.frozen 2; have f3 := hbk.frozen 3; have f4 := hbk.frozen 4) | skip)))
        all_goals
          go_split_ands
          rename_i s1 hbl s3 hbB
          have d0 := hbl.cell 0 rfl
          have d1 := hbl.cell 1 rfl
          have d2 := hbl.cell 2 rfl
          have d3 := hbl.cell 3 rfl
          have d4 := hbl.cell 4 rfl
          go_wp2_with fail
          refine (hcall _).mono ?_
          rintro e w5 ⟨rfl, hb5⟩
          have hbn := below_step hbB hb5
          go_wp2
          go_roundw
          case rel => exact ⟨k + 1, by omega, by go_num, HGN, hbn⟩
          case measure => simp [intOf]; omega
end Go.Proofs.YtffllacphfapnaaGreatDoor
namespace Go.Proofs.YtffllacphfapnaaGreatDoor
open Go.RowKit Js

/-- the reader's own panic -/
def wrongP : List PanicEntry := [{ v := .iface 72 (.agg #[]), recovered := false }]
theorem tak_has (p s : By) : Lib.hasPrefix s p = (tak p s).isSome := by
  unfold tak Lib.hasPrefix; cases p.isPrefixOf s <;> rfl
theorem tak_trim (p s r : By) (h : tak p s = some r) : Lib.trimPrefix s p = r := by
  unfold tak at h
  unfold Lib.trimPrefix Lib.hasPrefix
  split at h
  · rename_i hp; rw [if_pos hp]; simpa using h
  · cases h

set_option maxRecDepth 20000 in
set_option maxHeartbeats 1000000 in
theorem take_ok (b : Nat) (s p r : By) (w : World) (h : Blk w b 76 [.string ⟨s.toArray⟩]) (hr : tak p s = some r) :
    Calls Tryz.prog 30 #[.pointer (some ⟨b, 0, none⟩), .string ⟨p.toArray⟩] w fun e w' => e = .returned (.tuple #[]) ∧ w' = w.setCell ⟨b, 0, none⟩ (.string ⟨r.toArray⟩) := by
  have c0 := h.cell 0 rfl
  have f0 := h.frozen 0
  have h1 := tak_has p s
  have h2 := tak_trim p s r hr
  rw [hr] at h1
  have hb := Lib.hid h
  clear h hr
  have key := Tryz.strings_CutPrefix ⟨s.toArray⟩ ⟨p.toArray⟩
  have e1 : (⟨s.toArray⟩ : ByteArray).data.toList = s := rfl
  have e2 : (⟨p.toArray⟩ : ByteArray).data.toList = p := rfl
  rw [e1, e2, h1, h2] at key
  clear h1 h2 e1 e2
  go_enter Tryz.func30, Tryz.ntmps30
  go_wp2_with (go_at_call 49; refine (key _).mono ?_; rintro e w' ⟨rfl, rfl⟩)
  go_wp2
  go_end0
  exact ⟨rfl, rfl⟩
set_option maxRecDepth 20000 in
set_option maxHeartbeats 1000000 in
theorem take_bad (b : Nat) (s p : By) (w : World) (h : Blk w b 76 [.string ⟨s.toArray⟩]) (hr : tak p s = none) :
    Calls Tryz.prog 30 #[.pointer (some ⟨b, 0, none⟩), .string ⟨p.toArray⟩] w fun e w' => e = .panicked wrongP ∧ w' = w := by
  have c0 := h.cell 0 rfl
  have f0 := h.frozen 0
  have h1 := tak_has p s
  rw [hr] at h1
  have hb := Lib.hid h
  clear h hr
  have key := Tryz.strings_CutPrefix ⟨s.toArray⟩ ⟨p.toArray⟩
  have e1 : (⟨s.toArray⟩ : ByteArray).data.toList = s := rfl
  have e2 : (⟨p.toArray⟩ : ByteArray).data.toList = p := rfl
  rw [e1, e2, h1] at key
  clear h1 e1 e2
  go_enter Tryz.func30, Tryz.ntmps30
  go_wp2_with (go_at_call 49; refine (key _).mono ?_; rintro e w' ⟨rfl, rfl⟩)
  go_wp2
  exact ⟨rfl, rfl, rfl⟩

set_option maxRecDepth 20000 in
set_option maxHeartbeats 1000000 in
theorem byte_ok (b : Nat) (c : UInt8) (r : By) (w : World) (h : Blk w b 76 [.string ⟨(c :: r).toArray⟩]) (hl : r.length ≤ 1000000) :
    Calls Tryz.prog 76 #[.pointer (some ⟨b, 0, none⟩)] w fun e w' => e = .returned (.int .u8 (c.toNat : Int)) ∧ w' = w.setCell ⟨b, 0, none⟩ (.string ⟨r.toArray⟩) := by
  have c0 := h.cell 0 rfl
  have f0 := h.frozen 0
  have hne : ((⟨(c :: r).toArray⟩ : ByteArray).toList == (⟨#[]⟩ : ByteArray).toList) = false := by
    rw [ByteArray.toList_eq, ByteArray.toList_eq]; rfl
  have hix := ix_str ⟨(c :: r).toArray⟩ 0 (by rw [st_size]; simp) c rfl
  have hsl : ∀ w : World, (Instr.slice 9 (.string ⟨(c :: r).toArray⟩) (some (.int .i64 1)) none none).run Tryz.prog w = .ok (.string ⟨r.toArray⟩) w := by
    intro w
    rw [run_slice_string_l w _ _ Tryz.underlying9 .i64 1 (by decide) (by rw [st_size]; simp; omega), show (1 : Int).toNat = 1 from rfl, st_extract, st_size]
    simp
  clear h
  go_enter Tryz.func76, Tryz.ntmps76
  go_wp2
  go_ret
  exact ⟨ret_int rfl, rfl⟩
set_option maxRecDepth 20000 in
theorem byte_bad (b : Nat) (w : World) (h : Blk w b 76 [.string ⟨#[]⟩]) :
    Calls Tryz.prog 76 #[.pointer (some ⟨b, 0, none⟩)] w fun e w' => e = .panicked wrongP ∧ w' = w := by
  have c0 := h.cell 0 rfl
  have f0 := h.frozen 0
  clear h
  go_enter Tryz.func76, Tryz.ntmps76
  go_wp2
  exact ⟨rfl, rfl, rfl⟩

def hexs : By := [48, 49, 50, 51, 52, 53, 54, 55, 56, 57, 97, 98, 99, 100, 101, 102]
theorem ix_wo (c : UInt8) : Lib.indexByte hexs c = match wo c with | some x => (x.toNat : Int) | none => -1 := by
  revert c; exact all_u8 (by decide +kernel)
theorem wo_lt (c x : UInt8) (h : wo c = some x) : x.toNat < 16 := by have := (wo_back c x h).2; rw [UInt8.lt_iff_toNat_lt] at this; simpa using this
set_option maxRecDepth 20000 in
set_option maxHeartbeats 1000000 in
theorem sign_ok (b : Nat) (c x : UInt8) (r : By) (w : World) (h : Blk w b 76 [.string ⟨(c :: r).toArray⟩]) (hl : r.length ≤ 1000000) (hx : wo c = some x) :
    Calls Tryz.prog 77 #[.pointer (some ⟨b, 0, none⟩)] w fun e w' => e = .returned (.int .u8 (x.toNat : Int)) ∧ w' = w.setCell ⟨b, 0, none⟩ (.string ⟨r.toArray⟩) := by
  have hi := ix_wo c
  rw [hx] at hi
  have hlt := wo_lt c x hx
  simp only at hi
  have key := fun w => Tryz.strings_IndexByte ⟨hexs.toArray⟩ (c.toNat : Int) w
  have e1 : (⟨hexs.toArray⟩ : ByteArray).data.toList = hexs := rfl
  have e2 : (c.toNat : Int).toNat.toUInt8 = c := by simp
  rw [e1, e2, hi] at key
  have hn : ¬ (x.toNat : Int) < 0 := by omega
  have hw : IntKind.u8.wrap (x.toNat : Int) = (x.toNat : Int) := by simp [IntKind.wrap, IntKind.bits, IntKind.signed]; omega
  clear e1 e2 hi
  go_enter Tryz.func77, Tryz.ntmps77
  go_wp2_with (first | (go_at_call 76; refine (byte_ok b c r _ h hl).mono ?_; rintro e w' ⟨rfl, rfl⟩) | (go_at_call 98; refine (key _).mono ?_; rintro e w' ⟨rfl, rfl⟩))
  go_wp2
  go_ret
  exact ⟨ret_int rfl, rfl⟩
set_option maxRecDepth 20000 in
set_option maxHeartbeats 1000000 in
theorem sign_bad (b : Nat) (c : UInt8) (r : By) (w : World) (h : Blk w b 76 [.string ⟨(c :: r).toArray⟩]) (hl : r.length ≤ 1000000) (hx : wo c = none) :
    Calls Tryz.prog 77 #[.pointer (some ⟨b, 0, none⟩)] w fun e w' => e = .panicked wrongP ∧ w' = w.setCell ⟨b, 0, none⟩ (.string ⟨r.toArray⟩) := by
  have hi := ix_wo c
  rw [hx] at hi
  simp only at hi
  have key := fun w => Tryz.strings_IndexByte ⟨hexs.toArray⟩ (c.toNat : Int) w
  have e1 : (⟨hexs.toArray⟩ : ByteArray).data.toList = hexs := rfl
  have e2 : (c.toNat : Int).toNat.toUInt8 = c := by simp
  rw [e1, e2, hi] at key
  clear e1 e2 hi
  go_enter Tryz.func77, Tryz.ntmps77
  go_wp2_with (first | (go_at_call 76; refine (byte_ok b c r _ h hl).mono ?_; rintro e w' ⟨rfl, rfl⟩) | (go_at_call 98; refine (key _).mono ?_; rintro e w' ⟨rfl, rfl⟩))
  go_wp2
  exact ⟨rfl, rfl, rfl⟩
set_option maxRecDepth 20000 in
set_option maxHeartbeats 1000000 in
theorem sign_end (b : Nat) (w : World) (h : Blk w b 76 [.string ⟨#[]⟩]) :
    Calls Tryz.prog 77 #[.pointer (some ⟨b, 0, none⟩)] w fun e w' => e = .panicked wrongP ∧ w' = w := by
  go_enter Tryz.func77, Tryz.ntmps77
  go_wp2_with (go_at_call 76; refine (byte_bad b _ h).mono ?_; rintro e w' ⟨rfl, rfl⟩)
  go_wp2
  exact ⟨rfl, rfl, rfl⟩
end Go.Proofs.YtffllacphfapnaaGreatDoor
