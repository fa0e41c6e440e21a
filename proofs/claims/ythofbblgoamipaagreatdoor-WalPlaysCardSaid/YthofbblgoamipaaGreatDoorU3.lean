/-
  From a walk to a row, for a law: the call returns true, and what lay in memory ahead of the call lies there as it did.
-/
import Derived.Test.YthofbblgoamipaaGreatDoorRows
import Derived.Test.YthofbblgoamipaaGreatDoorGen
import Derived.ProofKit
import Derived.OpenShut
import Derived.JoinedCond
import Derived.SizedLaws
import Derived.Deep.CondSized
import Derived.Carry
import Derived.Test.YthofbblgoamipaaGreatDoorU2
import Derived.Test.YthofbblgoamipaaGreatDoorSt
import Derived.Lib.SmallJoins
import Derived.Stop.LaidErr
import Derived.LaidByTextLater
import Derived.ChangeSlices
import Derived.Test.YthofbblgoamipaaGreatDoorCards
import Derived.Test.YthofbblgoamipaaGreatDoorTie
import Derived.Deep.DeepHandedRow
import Derived.Lay
import Derived.SevenTiedAt
namespace Go.Proofs.YthofbblgoamipaaGreatDoor
open Go.ChangeShapes Go.WideShapes Go.ChangeAt Go.RowKit

theorem Tryz.own : ownKnob Tryz.prog.godebug = none := by kernel_rfl
theorem Tryz.laidOut : laidOutB Tryz.prog = true := by kernel_rfl

section
variable {H : Type} {enc : TypeId × Value → H} {P : Program}

/-- what was read ahead of the call reads behind it as it did -/
theorem trodAll_low (hl : laidOutB P = true) {W W' : World} (hb : Below W.heap.size W W') : ∀ (ts : List TypeId) (vs : List Value) (ds : List (DataW H)) (ps : List MemPlace),
    (ts.all fun t => P.readableRec t && decide (t < P.types.size)) = true → DataW.TrodAll enc P W 0 (fun _ => true) true ts vs ds ps → (∀ x ∈ ps, x.block < W.heap.size) →
    DataW.TrodAll enc P W' 0 (fun b => decide (b < W.heap.size)) true ts vs ds ps
  | [], vs, ds, ps, _, h, _ => by
    obtain ⟨rfl, rfl, rfl⟩ := trodAll_nil h
    exact trodAll_mk0
  | t :: ts, vs, ds, ps, ht, h, hlt => by
    simp only [List.all_cons, Bool.and_eq_true, decide_eq_true_eq] at ht
    obtain ⟨v, vs', d, ds', p, q, rfl, rfl, rfl, h1, h2⟩ := trodAll_cons h
    exact trodAll_cons_mk (Below.trod hl ht.1.1 ht.1.2 h1 hb (fun x hx => hlt x (List.mem_append.2 (.inl hx)))) (trodAll_low hl hb ts vs' ds' q (by simpa using ht.2) h2 (fun x hx => hlt x (List.mem_append.2 (.inr hx))))

theorem law_post {f : Func} {s : ChangeSpec} {W W' : World} {args : Array Value} {ds gs : List (DataW H)} {before : List MemPlace} {tb : TypeId}
    (hW : DataW.Whole enc P f.params.toList s.vars false W args.toList ds gs before) (hl : laidOutB P = true) (hvs : s.vars = [])
    (hread : (f.params.toList.all fun t => P.readableRec t && decide (t < P.types.size)) = true) (hrt : f.resultTypes = #[tb]) (htb : P.underlying tb = some .bool)
    (hspec : s.fn H (ds ++ gs) = { results := [.lit (.bool true)], args := ds }) (hb : Below W.heap.size W W') : s.post enc P f false true false false W args (.bool true) W' := by
  have hlt : ∀ p ∈ before, p.block < W.heap.size := fun p hp => hW.lt p hp
  obtain ⟨p, q, hA, hV, hpq, hfz, hnd⟩ := hW
  rw [hvs] at hV
  obtain ⟨rfl, rfl⟩ := trodVars_none hV
  have hp : before = p := by rw [hpq]; simp
  subst hp
  have hA' := trodAll_low hl hb _ _ _ _ hread hA hlt
  have hW' : DataW.Whole enc P f.params.toList s.vars false W args.toList ds [] before := ⟨before, [], hA, by rw [hvs]; exact hV, by simp, hfz, hnd⟩
  refine ⟨ds, [], before, [], before, [], hW', ?_, ?_, ?_, World.keptBut_mono (fun x hx => ⟨hx, .inr (by simpa using hx)⟩) (hb.frame (· ∈ before)), fun h => by cases h⟩
  · rw [hspec, hrt]
    exact trodAll_cons_mk (shut_bool htb true) trodAll_mk0
  · rw [hspec]; exact hA'
  · rw [hspec, hvs]; exact hV
end
end Go.Proofs.YthofbblgoamipaaGreatDoor
/- Chapter 12: WalPlays' walk. -/
namespace Go.Proofs.YthofbblgoamipaaGreatDoor.Wa
open Go.RowKit Pt
set_option linter.unusedVariables false
set_option linter.unusedSimpArgs false
set_option maxRecDepth 100000

set_option maxHeartbeats 8000000 in
theorem walPlays_any (n : Int) (v : Value) (l : List Sq) (vb vk : Nat → Value) (w : World) (h : SqsAt w.heap.size w v l vb vk) (hl : l.length ≤ 4611686018427387904) :
    Calls Tryz.prog 3 #[.int .i64 n, v] w fun e w' => e = .returned (.bool true) ∧ Below w.heap.size w w' := by
  obtain ⟨a, c, rfl⟩ := h.shp
  have HNW := Lib.hid (new_py 16777216 w (by decide))
  have H := Lib.hid h
  clear h
  go_enter Tryz.func3, Tryz.ntmps3
  go_wp2_with fail
  refine HNW.out.mono ?_
  rintro e w1 ⟨q, m, rfl, hp1, hb1⟩
  have HB1 := Lib.hid hb1
  have HBG := Lib.hid (begun_any (rm := 16777216) (B0 := w.heap.size) [119] n w1 hp1 (by decide) (by decide) rfl rfl rfl rfl (by decide) hb1.size (fun j hj => hj))
  clear hp1 hb1 HNW
  go_wp2_with fail
  refine HBG.out.mono ?_
  rintro e w2 ⟨hb2, Yc, xp, g, M, x, bv, rv, rfl, hpl, hM, hM1⟩
  have HB2 := Lib.hid (HB1.out.trans hb2)
  have HP2 := Lib.hid hpl
  have HM := Lib.hid (And.intro hM1 hM)
  clear hb2 hpl hM hM1 HBG
  go_wp2_with fail
  refine (known_any w2).mono ?_
  rintro e w3 ⟨rfl, hb3⟩
  have HB3 := Lib.hid (HB2.out.trans (hb3.mono HB2.out.size))
  have HP3 := Lib.hid (HP2.out.below hb3)
  clear hb3
  go_wp2_with fail
  refine (bulk_any (.slice a l.length c) l vb vk w3 w.heap.size (H.out.below HB3.out) hl).mono ?_
  rintro e w4 ⟨rfl, hb4⟩
  have HB4 := Lib.hid (HB3.out.trans (hb4.mono HB3.out.size))
  have HP4 := Lib.hid (HP3.out.below hb4)
  clear hb4 HP3 HP2
  by_cases hbk : 1048576 < blk l 60
  case pos =>
    have t0 : decide (1048576 < blk l 60) = true := by rw [decide_eq_true_iff]; exact hbk
    rw [t0]
    clear hbk t0
    go_wp2_with fail
    go_ret
    exact ⟨rfl, HB4.out⟩
  case neg =>
  have t0 : decide (1048576 < blk l 60) = false := by rw [decide_eq_false_iff_not]; exact hbk
  have HBK := Lib.hid hbk
  rw [t0]
  clear hbk t0
  go_wp2_with fail
  go_loopw [8] (fun i wr => ∃ (k : Nat) (Yc : Nat → Prop) (g : Nat) (x : Wl) (lg : Lg) (bv rv : Value) (kk N T : Nat), k ≤ l.length ∧ k ≤ 60 ∧ i = .int .i64 (k : Int) ∧ PL w.heap.size Yc wr xp g q m [119] M x lg bv rv kk N T 16777216 ∧ N ≤ 1 + k ∧ T ≤ 12 + blk l k + 24 * k ∧ lg.R.length ≤ k ∧ Below w.heap.size w wr) (fun i _ => 60 - (intOf i).toNat)
  case atStart => exact ⟨0, _, _, _, _, _, _, _, _, _, Nat.zero_le _, Nat.zero_le _, rfl, HP4.out, Nat.le_refl _, by omega, Nat.le_refl _, HB4.out⟩
  case round =>
    obtain ⟨k, Y, g, x, lg, bv, rv, kk, N, T, hk, hk60, rfl, hpl, hN, hT, hR, hb⟩ := hrel
    have HB := Lib.hid hb
    by_cases hkn : k < l.length
    case neg =>
      have t1 : ¬ (k : Int) < (l.length : Int) := by omega
      clear hpl hb hT
      go_wp2_with fail
      go_ret
      exact ⟨rfl, HB.out⟩
    case pos =>
    have t1 : (k : Int) < (l.length : Int) := by omega
    by_cases hk1 : (k : Int) < 60
    case neg =>
      clear hpl hb hT
      go_wp2_with fail
      go_ret
      exact ⟨rfl, HB.out⟩
    case pos =>
    obtain ⟨s, hs⟩ : ∃ s, l[k]? = some s := ⟨_, List.getElem?_eq_getElem hkn⟩
    have hH := H.out.below hb
    obtain ⟨b1, o1, c1, e1, hb1, hc1⟩ := hH.cel (by omega)
    cases e1
    have y0 := hc1 k s hs 0 _ rfl
    have y1 := hc1 k s hs 1 _ rfl
    have y2 := hc1 k s hs 2 _ rfl
    simp only [Nat.add_zero] at y0
    have hbs := blk_succ hs
    have hbm := blk_mono (l := l) (show k + 1 ≤ 60 by omega)
    have hbn := HBK.out
    have HST := Lib.hid (step_any s (vb k) (vk k) wr hpl (hH.stp k s hs) (by decide) (by decide) HM.out.1 HM.out.2 (by omega) (by omega) (by omega))
    have HT : Hid (T ≤ 12 + blk l k + 24 * k ∧ blk l (k + 1) = blk l k + sz s) := Lib.hid ⟨hT, hbs⟩
    clear hc1 hH hpl hb hs hbs hbm hbn hT
    go_wp2_with fail
    refine HST.out.mono ?_
    rintro e w5 ⟨rfl, hb5, Y', g', x', lg', bv', rv', k', N', T', hp5, hN5, hT5, hR5⟩
    have HX := Lib.hid (And.intro hp5 (HB.out.trans hb5))
    have HQ : Hid (N' ≤ 1 + (k + 1) ∧ T' ≤ 12 + blk l (k + 1) + 24 * (k + 1) ∧ lg'.R.length ≤ k + 1) := Lib.hid ⟨by omega, by have := HT.out.1; have := HT.out.2; omega, by omega⟩
    clear hp5 hb5 hN5 hT5 hR5 HST y0 y1 y2
    go_wp2_with fail
    go_roundw
    case rel => exact ⟨k + 1, _, _, _, _, _, _, _, _, _, by omega, by omega, by go_num, HX.out.1, HQ.out.1, HQ.out.2.1, HQ.out.2.2, HX.out.2⟩
    case measure => simp [intOf]; omega
end Go.Proofs.YthofbblgoamipaaGreatDoor.Wa
/- Chapter 12's arguments: a script. -/
namespace Go.Proofs.YthofbblgoamipaaGreatDoor.Wa
open Go.ChangeShapes Go.WideShapes Go.ChangeAt Go.RowKit Go.ChangeMaps Pt
set_option linter.unusedVariables false
set_option linter.unusedSimpArgs false
set_option maxRecDepth 20000
section
variable {H : Type} {enc : TypeId × Value → H} {P : Program} {w : World} {held : Bool}
theorem cell_spot {a : Addr} {v : Value} (h : w.cell? a = some v) : a.spot = none := World.cell?_spot h
/-- a slice of one-cell elements, opened -/
theorem open_flat {α : Type} [Inhabited α] {t e : TypeId} (ht : P.underlying t = some (.slice e)) (hC : P.cellsOf e = 1) (f : α → Value) (G : α → Prop)
    (hel : ∀ n c y, DataW.trod enc P w 0 (fun _ => true) held n e [c] = some y → ∃ x, c = f x ∧ G x) {fuel : Nat} {v : Value} {x : DataW H × List MemPlace} (h : DataW.trod enc P w 0 (fun _ => true) held fuel t [v] = some x) :
    ∃ l : List α, Rd w 1 v l.length (l.map f) ∧ (∀ y ∈ l, G y) ∧ (0 < l.length → ∀ g, v.ownBlock = some g → g < w.heap.size) ∧ ((x.1 = .nil ∧ l = []) ∨ ∃ es sp, x.1 = .slice es sp ∧ es.length = l.length) := by
  rcases DataW.trod_slice ht h with ⟨hcs, hx⟩ | ⟨a, len, cap, elems, rest, n, _, hcs, hx, _, hlc, hcm, hlen, hel2, _, _⟩
  · simp only [List.cons.injEq, and_true] at hcs
    subst hcs
    refine ⟨[], Rd.nil _ _, (fun y hy => (by cases hy)), (fun h0 => absurd h0 (Nat.lt_irrefl _)), .inl ⟨by rw [hx], rfl⟩⟩
  · simp only [List.cons.injEq, and_true] at hcs
    subst hcs
    have hat : ∀ i, i < len → ∃ y : α, w.cell? (a.add i) = some (f y) ∧ G y := fun i hi => by
      have h1 := hel2 i hi
      rw [hC, Nat.mul_one] at h1
      have h2 : elems[i]? = some elems[i] := List.getElem?_eq_getElem (by omega)
      rw [h2] at h1
      obtain ⟨cs, hc1, hc2⟩ := Option.bind_eq_some_iff.1 h1
      obtain ⟨_, hl, hcc⟩ := World.cells?_some hc1
      obtain ⟨c, rfl⟩ : ∃ c, cs = [c] := List.length_eq_one_iff.1 hl
      obtain ⟨y, rfl, hG⟩ := hel n c _ hc2
      exact ⟨y, by have := hcc 0 (by omega); rw [show (a.add i).add 0 = a.add i from by simp [Addr.add]] at this; simpa using this, hG⟩
    obtain ⟨Y, hY⟩ := Deep.choose_lt hat
    have hxe : ∃ es sp, x.1 = .slice es sp ∧ es.length = ((List.range len).map Y).length := ⟨_, _, by rw [hx], by simp [hlen]⟩
    rcases Nat.eq_zero_or_pos len with h0 | h0
    · subst h0
      exact ⟨[], ⟨rfl, .inl ⟨⟨_, _, rfl⟩, rfl⟩⟩, (fun y hy => (by cases hy)), (fun h0 => absurd h0 (Nat.lt_irrefl _)), .inr (by simpa using hxe)⟩
    · obtain ⟨b, off, spot⟩ := a
      obtain rfl : spot = none := by simpa [Addr.add] using World.cell?_spot (hY 0 h0).1
      have hc0 := (hY 0 h0).1
      simp only [Addr.add_lit] at hc0
      refine ⟨(List.range len).map Y, ⟨by simp, .inr ⟨b, off, cap, by simp, by simpa using hlc, fun j u hj => ?_⟩⟩, fun y hy => ?_, fun _ g hg => ?_, .inr hxe⟩
      · rw [List.getElem?_map, List.getElem?_map] at hj
        have hj' : j < len := by
          rcases Nat.lt_or_ge j len with h' | h'
          · exact h'
          · rw [List.getElem?_eq_none (by simpa using h')] at hj; cases hj
        rw [List.getElem?_eq_getElem (by simpa using hj')] at hj
        simp only [Option.map_some, List.getElem_range, Option.some.injEq] at hj
        have := (hY j hj').1
        simp only [Addr.add_lit] at this
        rw [this, hj]
      · obtain ⟨i, hi, rfl⟩ := List.mem_map.1 hy
        exact (hY i (List.mem_range.1 hi)).2
      · cases hg
        rcases Nat.lt_or_ge b w.heap.size with h' | h'
        · exact h'
        · simp [World.cell?, Array.getElem?_eq_none h'] at hc0
end
theorem weights_all {H : Type} {P : Program} {e : TypeId} : ∀ {l : List (DataW H)} {d : DataW H} {n : Nat}, d ∈ l → n ∈ d.weights P e → n ∈ DataW.weightsAll P e l
  | x :: r, d, n, hd, hn => by
    simp only [DataW.weightsAll, List.mem_append]
    rcases List.mem_cons.1 hd with rfl | hd
    · exact .inl hn
    · exact .inr (weights_all hd hn)
theorem wf_u8b {n : Int} (h : (Lit.int .u8 n).wf = true) : 0 ≤ n ∧ n < 256 := by
  simp only [Lit.wf, Bool.and_eq_true, decide_eq_true_eq] at h
  rw [show IntKind.u8.min = 0 from rfl, show IntKind.u8.max = 255 from rfl] at h
  omega
theorem wf_i64b {n : Int} (h : (Lit.int .i64 n).wf = true) : -9223372036854775808 ≤ n ∧ n ≤ 9223372036854775807 := by
  simp only [Lit.wf, Bool.and_eq_true, decide_eq_true_eq] at h
  rw [show IntKind.i64.min = -9223372036854775808 from rfl, show IntKind.i64.max = 9223372036854775807 from rfl] at h
  omega
section
variable {H : Type} {enc : TypeId × Value → H} {P : Program} {w : World} {base : Nat} {spare : Nat → Bool} {held : Bool}
theorem trod_three {t : TypeId} {f0 f1 f2 : Field} {fuel : Nat} {cs : List Value} {x : DataW H × List MemPlace} (ht : P.underlying t = some (.struct #[f0, f1, f2])) (h : DataW.trod enc P w base spare held fuel t cs = some x) :
    ∃ y0 y1 y2 n, x.1 = .agg [y0.1, y1.1, y2.1] ∧ cs.length = P.cellsOf t ∧ DataW.trod enc P w base spare held n f0.type ((cs.drop f0.offset).take (P.cellsOf f0.type)) = some y0 ∧
      DataW.trod enc P w base spare held n f1.type ((cs.drop f1.offset).take (P.cellsOf f1.type)) = some y1 ∧ DataW.trod enc P w base spare held n f2.type ((cs.drop f2.offset).take (P.cellsOf f2.type)) = some y2 := by
  obtain ⟨xs, n, _, rfl, hl, hlen, hf⟩ := DataW.trod_struct ht h
  match xs, hlen with
  | [y0, y1, y2], _ => exact ⟨y0, y1, y2, n, by simp, hl, by simpa using hf 0 f0 rfl, by simpa using hf 1 f1 rfl, by simpa using hf 2 f2 rfl⟩
end
/-- one step, read -/
theorem step_of {H : Type} {enc : TypeId × Value → H} {w : World} {held : Bool} {n : Nat} {cs : List Value} {y : DataW H × List MemPlace} (h : DataW.trod enc Tryz.prog w 0 (fun _ => true) held n 35 cs = some y)
    (hw : ∀ m ∈ y.1.weights Tryz.prog 35, m ≤ reachBytes) : ∃ X : Sq × Value × Value, cs = sqc X.1 X.2.1 X.2.2 ∧ SqAt w.heap.size w X.1 X.2.1 X.2.2 := by
  obtain ⟨y0, y1, y2, n', hy, hl, h0, h1, h2⟩ := trod_three Tryz.underlying35 h
  have hl3 : cs.length = 3 := hl.trans (by kernel_rfl)
  obtain ⟨c0, c1, c2, rfl⟩ : ∃ c0 c1 c2, cs = [c0, c1, c2] := by
    match cs, hl3 with
    | [c0, c1, c2], _ => exact ⟨c0, c1, c2, rfl⟩
  have g0 : DataW.trod enc Tryz.prog w 0 (fun _ => true) held n' 3 [c0] = some y0 := h0
  have g2 : DataW.trod enc Tryz.prog w 0 (fun _ => true) held n' 32 [c1] = some y1 := h1
  have g4 : DataW.trod enc Tryz.prog w 0 (fun _ => true) held n' 33 [c2] = some y2 := h2
  obtain ⟨k, e0, _⟩ := DataW.trod_int Tryz.underlying3 g0
  obtain ⟨lb, rb, _, nb, db⟩ := open_flat Tryz.underlying32 (by kernel_rfl) (fun c : UInt8 => Value.int .u8 (c.toNat : Int)) (fun _ => True) (fun n c y hy => by
    obtain ⟨k, e, _, hk⟩ := DataW.trod_int Tryz.underlying5 hy
    simp only [List.cons.injEq, and_true] at e
    subst e
    have hb := wf_u8b hk
    refine ⟨UInt8.ofNat k.toNat, ?_, trivial⟩
    rw [UInt8.toNat_ofNat_of_lt' (by show k.toNat < 256; omega)]
    congr 1
    omega) g2
  obtain ⟨lk, rk, _, nk, _⟩ := open_flat Tryz.underlying33 (by kernel_rfl) (fun j : Int => Value.int .i64 j) (fun _ => True) (fun n c y hy => by
    obtain ⟨k, e, _, hk⟩ := DataW.trod_int Tryz.underlying3 hy
    simp only [List.cons.injEq, and_true] at e
    exact ⟨k, e, trivial⟩) g4
  simp only [List.cons.injEq, and_true] at e0
  subst e0
  have hbl : lb.length ≤ 140737488355000 := by
    rcases db with ⟨_, rfl⟩ | ⟨es, sp, e, hel⟩
    · simp
    · have := hw ((es.length + sp.length) * Tryz.prog.bytesOf 5) (by
        rw [hy]
        have hu := Tryz.underlying35
        simp only [DataW.weights, hu]
        refine DataW.weights_mem_each (j := 1) (t := 32) (d := y1.1) rfl rfl _ ?_
        rw [e]
        have hu2 := Tryz.underlying32
        simp [DataW.weights, hu2])
      rw [show Tryz.prog.bytesOf 5 = 1 from by kernel_rfl, Nat.mul_one] at this
      have h2 : reachBytes = 140737488351232 := rfl
      omega
  exact ⟨(⟨k, lb, lk⟩, c1, c2), rfl, ⟨rb, rk, nb, nk, hbl⟩⟩
instance : Inhabited (Sq × Value × Value) := ⟨(⟨0, [], []⟩, .bool false, .bool false)⟩
set_option maxRecDepth 20000 in
theorem open_steps {H : Type} {enc : TypeId × Value → H} {W : World} {v : Value} {d : DataW H} {ps : List MemPlace} {r : Reach} {b0 : Nat} (hval : Value.okWide Tryz.prog W r b0 22 v) (h : DataW.Trod enc Tryz.prog W 0 (fun _ => true) true 22 v d ps)
    (hw : ∀ m ∈ d.weights Tryz.prog 22, m ≤ reachBytes) : ∃ (l : List Sq) (vb vk : Nat → Value), SqsAt W.heap.size W v l vb vk ∧ l.length ≤ 4611686018427387904 := by
  obtain ⟨a1, l1, c1, rfl⟩ := okWide_slice Tryz.underlying22 hval
  obtain ⟨fuel, hf⟩ := h
  have hf' : DataW.trod enc Tryz.prog W 0 (fun _ => true) true fuel 22 [.slice a1 l1 c1] = some (d, ps) := by simpa [Value.cells] using hf
  rcases DataW.trod_slice Tryz.underlying22 hf' with ⟨hcs, hx⟩ | ⟨a, len, cap, elems, rest, n, _, hcs, hx, _, hlc, hcm, hlen, hel2, _, _⟩
  · simp only [List.cons.injEq, and_true, Value.slice.injEq] at hcs
    obtain ⟨rfl, rfl, rfl⟩ := hcs
    exact ⟨[], fun _ => .bool false, fun _ => .bool false, ⟨⟨_, _, rfl⟩, fun h => absurd h (Nat.lt_irrefl _), fun k s h => by cases h⟩, by simp⟩
  · simp only [List.cons.injEq, and_true, Value.slice.injEq] at hcs
    obtain ⟨rfl, rfl, rfl⟩ := hcs
    simp only [Prod.mk.injEq] at hx
    have hC : Tryz.prog.cellsOf 35 = 3 := by kernel_rfl
    have hat : ∀ i, i < l1 → ∃ X : Sq × Value × Value, (∀ (j : Nat) (u : Value), (sqc X.1 X.2.1 X.2.2)[j]? = some u → W.cell? ((a.add (i * 3)).add j) = some u) ∧ SqAt W.heap.size W X.1 X.2.1 X.2.2 := fun i hi => by
      have h1 := hel2 i hi
      rw [hC] at h1
      have h2 : elems[i]? = some elems[i] := List.getElem?_eq_getElem (by omega)
      rw [h2] at h1
      obtain ⟨cs, hc1, hc2⟩ := Option.bind_eq_some_iff.1 h1
      obtain ⟨_, hl, hcc⟩ := World.cells?_some hc1
      obtain ⟨X, hX, hS⟩ := step_of hc2 (fun m hm => hw m (by
        rw [hx.1]
        have hu := Tryz.underlying22
        simp only [DataW.weights, hu]
        refine List.mem_cons_of_mem _ (List.mem_append.2 (.inl (weights_all (d := elems[i].1) ?_ hm)))
        exact List.mem_map.2 ⟨elems[i], List.getElem_mem _, rfl⟩))
      refine ⟨X, fun j u hj => ?_, hS⟩
      have hj3 : j < 3 := by have := (List.getElem?_eq_some_iff.1 hj).1; simpa [sqc] using this
      rw [hcc j hj3, hX, hj]
    obtain ⟨Y, hY⟩ := Deep.choose_lt hat
    have hll : ((List.range l1).map fun i => (Y i).1).length = l1 := by simp
    refine ⟨(List.range l1).map fun i => (Y i).1, fun i => (Y i).2.1, fun i => (Y i).2.2, ⟨⟨some a, c1, by rw [hll]⟩, fun h0 => ?_, fun k s hk => ?_⟩, ?_⟩
    · rw [hll] at h0
      obtain ⟨b, off, spot⟩ := a
      have hc0 := (hY 0 h0).1 0 _ rfl
      obtain rfl : spot = none := by simpa [Addr.add] using World.cell?_spot hc0
      simp only [Addr.add_lit] at hc0
      refine ⟨b, off, c1, by rw [hll], ?_, fun k s hk j u hj => ?_⟩
      · rcases Nat.lt_or_ge b W.heap.size with h' | h'
        · exact h'
        · simp [World.cell?, Array.getElem?_eq_none h'] at hc0
      · have hk' : k < l1 := by have := (List.getElem?_eq_some_iff.1 hk).1; rwa [hll] at this
        rw [List.getElem?_map, List.getElem?_range hk'] at hk
        simp only [Option.map_some, Option.some.injEq] at hk
        subst hk
        have := (hY k hk').1 j u hj
        simp only [Addr.add_lit] at this
        exact this
    · have hk' : k < l1 := by have := (List.getElem?_eq_some_iff.1 hk).1; rwa [hll] at this
      rw [List.getElem?_map, List.getElem?_range hk'] at hk
      simp only [Option.map_some, Option.some.injEq] at hk
      subst hk
      exact (hY k hk').2
    · rw [hll]; unfold maxLen at hcm; have := hw ((elems.length + rest.length) * Tryz.prog.bytesOf 35) (by
        rw [hx.1]
        have hu := Tryz.underlying22
        simp [DataW.weights, hu])
      rw [show Tryz.prog.bytesOf 35 = 56 from by kernel_rfl] at this
      have h2 : reachBytes = 140737488351232 := rfl
      omega
end Go.Proofs.YthofbblgoamipaaGreatDoor.Wa
/- WalPlays: the tied card 'WalPlaysCardSaid' is proved: for every input the call returns true and each argument reads as it did; the listed variables hold what the program's text lays. -/
namespace Go.Proofs.YthofbblgoamipaaGreatDoor.walPlays
open Go.ChangeShapes Go.WideShapes Go.ChangeAt Go.RowKit Go.ChangeMaps Wa
set_option linter.unusedVariables false

set_option maxRecDepth 20000 in
theorem contract (H : Type) (enc : TypeId × Value → H) (W : World) (base : Nat) (args : Array Value) (ds gs : List (DataW H)) (before : List MemPlace)
    (hval : ∀ (j : Nat) t v, Tryz.f3.params[j]? = some t → args[j]? = some v → Value.okWide Tryz.prog W .any base t v)
    (hW : DataW.Whole enc Tryz.prog Tryz.f3.params.toList Rows.walPlaysSpec.vars false W args.toList ds gs before)
    (hz : (DataW.weightsEach Tryz.prog (Tryz.f3.params.toList ++ (OpenSpec.ofChange Rows.walPlaysSpec).bare.plain.varTypes Tryz.prog) (ds ++ gs)).all (· ≤ reachBytes) = true) (hsh : W.ShapedOpen Tryz.prog) :
    Calls Tryz.prog 3 args W fun e W' => ∃ v, e = .returned v ∧ Rows.walPlaysSpec.post enc Tryz.prog Tryz.f3 false true false false W args v W' := by
  have hW' := hW
  obtain ⟨p, q, hA0, hV, rfl, hfz, hnd⟩ := hW
  have hA : DataW.TrodAll enc Tryz.prog W 0 (fun _ => true) true Tryz.f3.params.toList args.toList ds p := hA0
  rw [Tryz.params3] at hA hval
  obtain ⟨v0, vs0, d0, ds0, p0, q0, hargs, rfl, rfl, h0, r0⟩ := trodAll_cons hA
  obtain ⟨v1, vs1, d1, ds1, p1, q1, rfl, rfl, rfl, h1, r1⟩ := trodAll_cons r0
  obtain ⟨rfl, rfl, rfl⟩ := trodAll_nil r1
  obtain rfl : args = #[v0, v1] := by cases args; simp_all
  obtain ⟨rfl, rfl⟩ := trodVars_none hV
  obtain ⟨a0, rfl, rfl, rfl, w0⟩ := open_int Tryz.underlying3 (hval 0 3 v0 rfl rfl) h0
  obtain ⟨l1, vb1, vk1, n1, z1⟩ := open_steps (hval 1 22 v1 rfl rfl) h1 (fun m hm => by have := List.all_eq_true.1 hz _ (DataW.weights_mem_each (j := 1) rfl rfl m hm); simpa using this)
  refine (walPlays_any a0 v1 l1 vb1 vk1 W n1 z1).mono fun e W' ⟨he, hb⟩ => ?_
  subst he
  exact ⟨_, rfl, law_post (tb := 4) hW' Tryz.laidOut rfl (by kernel_rfl) (by kernel_rfl) Tryz.underlying4 rfl hb⟩

theorem reads (os : Os) {H : Type} (enc : TypeId × Value → H) : ∃ places, DataW.whole enc Tryz.prog ((World.laidAll Tryz.prog os Rows.walPlaysRow.laid).forCall (fun _ _ => 0) ⟨#[], #[.int .i64 0, .slice none 0 0], []⟩).memory Tryz.f3.params.toList Rows.walPlaysSpec.vars false (#[.int .i64 0, .slice none 0 0] : Array Value).toList 8 = some ([.lit (.int .i64 0), .nil], [], places) :=
  ⟨[], by kernel_rfl⟩

set_option maxRecDepth 100000 in
theorem lifted (os : Os) (started : os.Started) (H : Type) (enc : TypeId × Value → H) (F : Stop.Interp) :
    ReturnsInHanded {} Tryz.checked os 3 .any ((OpenSpec.ofChange Rows.walPlaysSpec).preRow enc Tryz.prog Tryz.f3 Rows.walPlaysRow.domain false Rows.walPlaysRow.laid) (((OpenSpec.ofChange Rows.walPlaysSpec).at F).post enc Tryz.prog Tryz.f3 false true false false) := by
  obtain ⟨places, hx⟩ := reads os enc
  refine returnsInHanded_of_row (C := Tryz.checked) (s := OpenSpec.ofChange Rows.walPlaysSpec) Tryz.own started (by kernel_rfl) Tryz.func3
    ⟨World.laidAll Tryz.prog os Rows.walPlaysRow.laid, fun _ _ => 0, ⟨#[], #[.int .i64 0, .slice none 0 0], []⟩, World.laidAll_os _ _ _, World.shaped_of_ZipB (by kernel_rfl) (by kernel_rfl), rfl, (Input.okWide_of_okWideB (base := 0) (by kernel_rfl)).2,
      OpenSpec.preRow_of_cond 8 hx (by kernel_rfl) (fun k hk => by cases hk) (by kernel_rfl) (by rw [MakeChecks.laidMetH_plain _ _ _ (by kernel_rfl)]; exact laidMet_laidAll _ (by kernel_rfl) (by kernel_rfl)),
      by simp [Assume.holds]⟩ ?_
  intro W base args ds gs before hval hW _ _ hz _ hsh _
  exact contract H enc W base args ds gs before hval hW hz hsh

theorem said : Rows.WalPlaysSaid :=
  OpenClaim.holds_of_cond 3 Tryz.f3 rfl rfl rfl rfl rfl rfl rfl ⟨rfl, rfl, rfl, rfl, rfl⟩ rfl rfl rfl rfl rfl (by kernel_rfl) Tryz.func3 (by kernel_rfl)
    (of_decide_eq_true (by kernel_rfl)) (by unfold Func.isWrapper; first | (rw [if_pos (by decide +kernel)]; kernel_rfl) | (rw [if_neg (by decide +kernel)]; exact ⟨rfl, rfl⟩))
    (fun os started H enc _ F => by rw [OpenClaim.pre_eq_preRow]; exact lifted os started H enc F)

/-- no parameter wants a stand-in; the program's own looks are on -/
theorem plain (f : FuncId) (fn : Func) (hf : Tryz.pinned.checked.prog.funcNamed "signet/signetlaw12.WalPlays" = some f) (hfn : Tryz.pinned.checked.prog.funcs[f]? = some fn) :
    true = Tryz.pinned.checked.prog.looks [] ∧ ∀ (j : Nat) t, fn.params[j]? = some t → Tryz.pinned.checked.prog.wantsStandIn t = false := by
  obtain rfl : f = 3 := Option.some.inj ((show Tryz.prog.funcNamed "signet/signetlaw12.WalPlays" = some 3 by kernel_rfl).symm.trans hf) |>.symm
  obtain rfl : fn = Tryz.f3 := (Option.some.inj (Tryz.func3.symm.trans hfn)).symm
  refine ⟨by kernel_rfl, fun j t ht => ?_⟩
  rw [Tryz.params3] at ht
  have hm : t ∈ [3, 22] := by simpa using Array.mem_of_getElem? ht
  have hall : ([3, 22].all fun u => !Tryz.prog.wantsStandIn u) = true := by kernel_rfl
  exact (show Tryz.prog.wantsStandIn t = false by simpa using List.all_eq_true.1 hall t hm)

theorem proved : Rows.WalPlaysCardSaid :=
  Claim7.holds_tied_plain_at .later [] _ _ _ _ said (fun _ h => by cases h) (by kernel_rfl) (fun _ h => by cases h) walPlays_row_tie rfl ⟨rfl, rfl⟩ (by kernel_rfl) rfl plain (by kernel_rfl)
end Go.Proofs.YthofbblgoamipaaGreatDoor.walPlays
