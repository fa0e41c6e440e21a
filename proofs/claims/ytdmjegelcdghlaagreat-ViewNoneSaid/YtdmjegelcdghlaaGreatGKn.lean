/-
  Chapter 22: how many replicas; whether an event is too great.
  (Texts put together: Kn Lf Lm Ln Lp.)
-/
import Derived.Test.YtdmjegelcdghlaaGreatGKl
import Derived.Test.YtdmjegelcdghlaaGreatGKa
import Derived.Test.YtdmjegelcdghlaaGreatGDd
import Derived.Test.YtdmjegelcdghlaaGreatGLg
import Derived.Test.YtdmjegelcdghlaaGreatGDq
import Derived.KernelRfl
import Derived.Deep.MidRow
namespace Go.Proofs.YtdmjegelcdghlaaGreat.Vw
open Go.RowKit Go.Maps
set_option linter.unusedVariables false
set_option linter.unusedSimpArgs false
set_option maxRecDepth 100000

theorem size_lem (n : Int) : ∃ m : Nat, m < 5 ∧ wrap64 (1 + wrap64 ((IntKind.u64.wrap n).tmod 5)) = ((m + 1 : Nat) : Int) := by
  have h0 : 0 ≤ IntKind.u64.wrap n := by
    have : IntKind.u64.wrap n = n % 18446744073709551616 := by simp [IntKind.wrap, IntKind.bits, IntKind.signed]
    rw [this]
    exact Int.emod_nonneg _ (by decide)
  have e : (IntKind.u64.wrap n).tmod 5 = IntKind.u64.wrap n % 5 := Int.tmod_eq_emod_of_nonneg h0
  have h1 : 0 ≤ IntKind.u64.wrap n % 5 := Int.emod_nonneg _ (by decide)
  have h2 : IntKind.u64.wrap n % 5 < 5 := Int.emod_lt_of_pos _ (by decide)
  rw [e]
  refine ⟨(IntKind.u64.wrap n % 5).toNat, by omega, ?_⟩
  rw [IntWalk.wrap64_in (IntKind.u64.wrap n % 5) (by omega), IntWalk.wrap64_in _ (by omega)]
  omega
set_option maxHeartbeats 1000000 in
theorem size_any (n : Int) (w : World) : Calls Tryz.prog 24 #[.int .i64 n] w fun e w' => ∃ m : Nat, 1 ≤ m ∧ m ≤ 5 ∧ e = .returned (.int .i64 (m : Int)) ∧ w' = w := by
  obtain ⟨m, hm, he⟩ := size_lem n
  have HE := Lib.hid he
  clear he
  go_enter Tryz.func24, Tryz.ntmps24
  go_wp2_with fail
  go_ret
  refine ⟨m + 1, by omega, by omega, ?_, rfl⟩
  show Ending.returned (.int .i64 (wrap64 (1 + wrap64 ((IntKind.u64.wrap n).tmod 5)))) = _
  rw [HE.out]
def wordsN (l : List Op) (j : Nat) : Nat := ((l.take j).map fun o => o.c.sco.length).sum
theorem wordsN_succ {l : List Op} {j : Nat} {o : Op} (h : l[j]? = some o) : wordsN l (j + 1) = wordsN l j + o.c.sco.length := by
  unfold wordsN
  rw [List.take_add_one, h, List.map_append, List.sum_append]
  simp
structure TxW (li : Nat) (c : Lb) (W : World) (u : Value) (o : Op) : Prop where
  rd : RdS W u o.c.sco
  lb : 0 < o.c.sco.length → LbO c li u
  sz : o.c.sco.length ≤ 8796093022208
def opW (li : Nat) : Ek Op := ⟨16, 26, opC, fun c W u o => TxW li c W u o, fun k => k = li⟩
theorem opW_ok (li : Nat) : (opW li).Ok := by
  refine ⟨by show 0 < 16; decide, fun a u => rfl, fun c W u o h x hx => ?_, fun c c' W W' u o h hc hb => ?_⟩
  · have hu := slc_one (TxW.rd h).1
    have hx' : o = o → x ∈ opC u o := fun _ => hx
    unfold opC at hx'
    have := hx' rfl
    simp only [List.mem_cons, List.not_mem_nil, or_false] at this
    rcases this with rfl | rfl | rfl | rfl | rfl | rfl | rfl | rfl | rfl | rfl | rfl | rfl | rfl | rfl | rfl | rfl <;> first | rfl | exact hu
  · have h2 : TxW li c W u o := h
    refine ⟨⟨rd_keepL h2.rd.1 (by decide) fun h0 g hg hlt => hb g hlt (h2.lb h0 g hg), h2.rd.2⟩, fun h0 g hg => ?_, h2.sz⟩
    rw [hc g (rd_lt h2.rd.1 (by decide) h0 g hg)]
    exact h2.lb h0 g hg
theorem SlR.atW {li lo : Nat} {c : Lb} {w : World} {v : Value} {l : List Op} (h : SlR (opW li) c lo w v l) {k : Nat} {o : Op} (hk : l[k]? = some o) :
    ∃ b off cap ua uc, v = .slice (some ⟨b, off, none⟩) l.length cap ∧ RdS w (.slice ua o.c.sco.length uc) o.c.sco ∧ o.c.sco.length ≤ 8796093022208 ∧ ∀ W, Below w.heap.size w W → ∀ (q : Nat) x, (opC o (.slice ua o.c.sco.length uc))[q]? = some x → W.cell? ⟨b, off + k * 16 + q, none⟩ = some x := by
  obtain ⟨b, off, cap, u, hv, hin, hc⟩ := h.get (opW_ok li) hk
  have hin' : TxW li c w u o := hin
  obtain ⟨ua, uc, e⟩ := hin'.rd.1.slice
  subst e
  refine ⟨b, off, cap, ua, uc, hv, hin'.rd, hin'.sz, fun W hb q x hx => ?_⟩
  have h1 := hc q x hx
  have h2 := World.block_lt_of_cell? w _ h1
  have h3 := hb.block _ h2
  simp only [World.cell?, h3] at h1 ⊢
  exact h1
theorem words_zero (l : List Op) : wordsN l 0 ≤ 0 * 8796093022208 := by rw [Nat.zero_mul]; exact Nat.le_refl _
theorem gr_wrap (a ws k s q : Nat) (hq : q = a + ws) (hw : ws ≤ k * 8796093022208) (hk : k ≤ 41) (ha : a ≤ 4611686018427387904) (hs : s ≤ 8796093022208) : IntKind.i64.wrap ((q : Int) + (s : Int)) = ((q + s : Nat) : Int) := by
  rw [IntWalk.i64_in _ (by omega)]; omega
theorem gr_next (a ws k s q : Nat) (hq : q = a + ws) (hw : ws ≤ k * 8796093022208) (hs : s ≤ 8796093022208) : q + s = a + (ws + s) ∧ ws + s ≤ (k + 1) * 8796093022208 := by omega
def greatE (o : Op) (l : List Op) : Bool := decide (40 < l.length) || decide (200 < o.c.sco.length + wordsN l (min l.length 41))
set_option maxHeartbeats 8000000 in
theorem great_any {li lo : Nat} {c : Lb} (ek ew ep : Int) (o : Op) (oa : Option Addr) (oc : Nat) (m : Mz) (mv : Value) (w : World) (hm : SlR (opW li) c lo w mv m.ops) (ho : o.c.sco.length ≤ 4611686018427387904) (hl : m.ops.length ≤ 4611686018427387904) :
    Calls Tryz.prog 25 #[.agg #[.int .i64 ek, .int .i64 ew, .int .i64 ep, .int .i64 o.ed, .int .i64 o.sq, .int .i64 o.lo, .int .i64 o.c.kd, .string ⟨o.c.fam.toArray⟩, .int .i64 o.c.ser, .int .i64 o.c.tok, .string ⟨o.c.cli.toArray⟩, .string ⟨o.c.usr.toArray⟩, .slice oa o.c.sco.length oc, .string ⟨o.c.red.toArray⟩, .string ⟨o.c.cha.toArray⟩, .string ⟨o.c.met.toArray⟩, .string ⟨o.c.ver.toArray⟩, .bool o.c.rf, .int .i64 o.c.edg, .int .i64 m.kd, .int .i64 m.fr, .int .i64 m.vw, .int .i64 m.nr, .int .i64 m.ao, mv, .int .i64 m.cm, .int .i64 m.sb, .int .i64 m.ls]] w fun e w' => e = .returned (.bool (greatE o m.ops)) ∧ Below w.heap.size w w' := by
  obtain ⟨ma, mc, rfl⟩ := hm.slice
  have HM := Lib.hid hm
  have HN := Lib.hid (And.intro ho hl)
  clear hm ho hl
  go_enter Tryz.func25, Tryz.ntmps25
  go_upto_region 1 with fail
  obtain ⟨w1, hw1⟩ : ∃ w1, w1 = w.alloc (.cells #[.int .i64 ek, .int .i64 ew, .int .i64 ep, .int .i64 o.ed, .int .i64 o.sq, .int .i64 o.lo, .int .i64 o.c.kd, .string ⟨o.c.fam.toArray⟩, .int .i64 o.c.ser, .int .i64 o.c.tok, .string ⟨o.c.cli.toArray⟩, .string ⟨o.c.usr.toArray⟩, .slice oa o.c.sco.length oc, .string ⟨o.c.red.toArray⟩, .string ⟨o.c.cha.toArray⟩, .string ⟨o.c.met.toArray⟩, .string ⟨o.c.ver.toArray⟩, .bool o.c.rf, .int .i64 o.c.edg, .int .i64 m.kd, .int .i64 m.fr, .int .i64 m.vw, .int .i64 m.nr, .int .i64 m.ao, .slice ma m.ops.length mc, .int .i64 m.cm, .int .i64 m.sb, .int .i64 m.ls] 62) := ⟨_, rfl⟩
  obtain ⟨b1, hb1⟩ : ∃ b1, b1 = w.heap.size := ⟨_, rfl⟩
  have HB1 : Hid (Below w.heap.size w w1) := Lib.hid (by rw [hw1]; exact (Below.refl _ _).alloc (Nat.le_refl _) _)
  have HM1 : Hid (Blk w1 b1 62 [.int .i64 ek, .int .i64 ew, .int .i64 ep, .int .i64 o.ed, .int .i64 o.sq, .int .i64 o.lo, .int .i64 o.c.kd, .string ⟨o.c.fam.toArray⟩, .int .i64 o.c.ser, .int .i64 o.c.tok, .string ⟨o.c.cli.toArray⟩, .string ⟨o.c.usr.toArray⟩, .slice oa o.c.sco.length oc, .string ⟨o.c.red.toArray⟩, .string ⟨o.c.cha.toArray⟩, .string ⟨o.c.met.toArray⟩, .string ⟨o.c.ver.toArray⟩, .bool o.c.rf, .int .i64 o.c.edg, .int .i64 m.kd, .int .i64 m.fr, .int .i64 m.vw, .int .i64 m.nr, .int .i64 m.ao, .slice ma m.ops.length mc, .int .i64 m.cm, .int .i64 m.sb, .int .i64 m.ls]) := Lib.hid (by rw [hw1, hb1]; exact Blk.new w 62 _)
  rw [← hw1, ← hb1]
  clear hw1 hb1
  generalize Value.agg #[.int .i64 ek, .int .i64 ew, .int .i64 ep, .int .i64 o.ed, .int .i64 o.sq, .int .i64 o.lo, .int .i64 o.c.kd, .string ⟨o.c.fam.toArray⟩, .int .i64 o.c.ser, .int .i64 o.c.tok, .string ⟨o.c.cli.toArray⟩, .string ⟨o.c.usr.toArray⟩, .slice oa o.c.sco.length oc, .string ⟨o.c.red.toArray⟩, .string ⟨o.c.cha.toArray⟩, .string ⟨o.c.met.toArray⟩, .string ⟨o.c.ver.toArray⟩, .bool o.c.rf, .int .i64 o.c.edg, .int .i64 m.kd, .int .i64 m.fr, .int .i64 m.vw, .int .i64 m.nr, .int .i64 m.ao, .slice ma m.ops.length mc, .int .i64 m.cm, .int .i64 m.sb, .int .i64 m.ls] = ev0
  have z12 := HM1.out.cell 12 rfl
  have z24 := HM1.out.cell 24 rfl
  go_wp2_with fail
  go_loopw [3, 4] (fun nv i wr => ∃ k : Nat, k ≤ m.ops.length ∧ k ≤ 41 ∧ i = .int .i64 (k : Int) ∧ nv = .int .i64 ((o.c.sco.length + wordsN m.ops k : Nat) : Int) ∧ wordsN m.ops k ≤ k * 8796093022208 ∧ wr = w1) (fun _ i _ => m.ops.length - (intOf i).toNat)
  case atStart => exact ⟨0, Nat.zero_le _, by omega, rfl, rfl, words_zero m.ops, rfl⟩
  case round =>
    obtain ⟨k, hk, hk41, rfl, rfl, hwd, rfl⟩ := hrel
    obtain ⟨q, hq⟩ : ∃ q, q = o.c.sco.length + wordsN m.ops k := ⟨_, rfl⟩
    have HQ := Lib.hid (And.intro hq hwd)
    rw [← hq]
    clear hq hwd
    by_cases hkn : k < m.ops.length ∧ k ≤ 40
    case pos =>
      obtain ⟨x, hx⟩ : ∃ x, m.ops[k]? = some x := ⟨_, List.getElem?_eq_getElem hkn.1⟩
      obtain ⟨b2, o2, p2, ua, uac, e2, hra, hok, hza⟩ := HM.out.atW hx
      cases e2
      have y9 : wr.cell? ⟨b2, o2 + k * 16 + 9, none⟩ = some (.slice ua x.c.sco.length uac) := hza wr HB1.out 9 _ rfl
      have t1 : (k : Int) < (m.ops.length : Int) := by omega
      have t2 : (k : Int) ≤ 40 := by omega
      have hs9 := hok
      obtain ⟨q2, hq2⟩ : ∃ q2, q2 = q + x.c.sco.length := ⟨_, rfl⟩
      have hwr : IntKind.i64.wrap ((q : Int) + (x.c.sco.length : Int)) = (q2 : Int) := by rw [hq2]; exact gr_wrap o.c.sco.length (wordsN m.ops k) k x.c.sco.length q HQ.out.1 HQ.out.2 hk41 HN.out.1 hs9
      have HQ2 : Hid (q2 = o.c.sco.length + wordsN m.ops (k + 1) ∧ wordsN m.ops (k + 1) ≤ (k + 1) * 8796093022208) := Lib.hid (by rw [wordsN_succ hx, hq2]; exact gr_next o.c.sco.length (wordsN m.ops k) k x.c.sco.length q HQ.out.1 HQ.out.2 hs9)
      have hl9 : m.ops.length ≤ 4611686018427387904 := HN.out.2
      clear hra hok hza hx hs9 hq2
      go_wp2_with fail
      go_roundw
      case rel => exact ⟨k + 1, by omega, by omega, by go_num, by rw [HQ2.out.1], HQ2.out.2, trivial⟩
      case measure => simp [intOf]; omega
    case neg =>
      have HG : Hid (greatE o m.ops = (decide (40 < m.ops.length) || decide (200 < q))) := Lib.hid (by
        unfold greatE
        have h1 : min m.ops.length 41 = k := by omega
        rw [h1, HQ.out.1])
      by_cases h1 : k < m.ops.length
      · have t1 : (k : Int) < (m.ops.length : Int) := by omega
        have t2 : ¬ (k : Int) ≤ 40 := by omega
        have t3 : (40 : Int) < (m.ops.length : Int) := by omega
        have HR : Hid (greatE o m.ops = true) := Lib.hid (by rw [HG.out, decide_eq_true (show 40 < m.ops.length by omega)]; rfl)
        clear hkn h1
        go_wp2_with fail
        go_ret
        exact ⟨by rw [HR.out]; rfl, HB1.out⟩
      · have t1 : ¬ (k : Int) < (m.ops.length : Int) := by omega
        clear hkn h1
        by_cases h2 : 40 < m.ops.length
        · have t3 : (40 : Int) < (m.ops.length : Int) := by omega
          have HR : Hid (greatE o m.ops = true) := Lib.hid (by rw [HG.out, decide_eq_true h2]; rfl)
          clear h2
          go_wp2_with fail
          go_ret
          exact ⟨by rw [HR.out]; rfl, HB1.out⟩
        · have t3 : ¬ (40 : Int) < (m.ops.length : Int) := by omega
          have HR : Hid (greatE o m.ops = decide ((200 : Int) < (q : Int))) := Lib.hid (by
            rw [HG.out, decide_eq_false h2, Bool.false_or]
            exact decide_eq_decide.2 (by omega))
          clear h2
          go_wp2_with fail
          go_ret
          refine ⟨?_, HB1.out⟩
          rw [HR.out]
          rfl
end Go.Proofs.YtdmjegelcdghlaaGreat.Vw
namespace Go.Proofs.YtdmjegelcdghlaaGreat.Vw
open Go.RowKit Go.Maps
set_option linter.unusedVariables false
set_option linter.unusedSimpArgs false
set_option maxRecDepth 100000

structure Ev where
  ek : Int
  ew : Int
  ep : Int
  o : Op
  oa : Option Addr
  oc : Nat
  m : Mz
  ma : Option Addr
  mc : Nat
def noM : Mz := ⟨0, 0, 0, 0, 0, [], 0, 0, 0⟩
def noO : Op := ⟨0, 0, 0, ⟨0, [], 0, 0, [], [], [], [], [], [], [], false, 0⟩⟩
instance : Inhabited Ev := ⟨⟨0, 0, 0, noO, none, 0, noM, none, 0⟩⟩
def CmS (c : Gr.Cm) : Prop := Gr.CmOk { c with sco := [] }
theorem CmS.ok {c : Gr.Cm} (h : CmS c) (hs : c.sco.length ≤ 1048576) : Gr.CmOk c := ⟨h.fam, h.cli, h.usr, h.red, h.cha, h.met, h.ver, hs⟩
structure TxX (li : Nat) (c : Lb) (W : World) (u : Value) (o : Op) : Prop where
  w : TxW li c W u o
  c : CmS o.c
def opX (li : Nat) : Ek Op := ⟨16, 26, opC, fun c W u o => TxX li c W u o, fun k => k = li⟩
theorem opX_ok (li : Nat) : (opX li).Ok := ⟨(opW_ok li).pos, (opW_ok li).len, fun c W a u h => (opW_ok li).one c W a u (TxX.w h), fun c c' W W' u a h hc hb => ⟨(opW_ok li).keep c c' W W' u a (TxX.w h) hc hb, TxX.c h⟩⟩
theorem SlR.wide {li lo : Nat} {c : Lb} {W : World} {v : Value} {l : List Op} (h : SlR (opX li) c lo W v l) : SlR (opW li) c lo W v l := by
  obtain ⟨⟨vs, h1, h2⟩, h3⟩ := h
  exact ⟨⟨vs, ⟨h1.1, fun i a u ha hu => TxX.w (h1.2 i a u ha hu)⟩, h2⟩, h3⟩
theorem SlR.texts {li lo : Nat} {c : Lb} {W : World} {v : Value} {l : List Op} (h : SlR (opX li) c lo W v l) : ∀ x ∈ l, CmS x.c := by
  obtain ⟨⟨vs, h1, h2⟩, h3⟩ := h
  intro x hx
  obtain ⟨i, hi, rfl⟩ := List.getElem_of_mem hx
  exact TxX.c (h1.2 i _ (vs[i]'(by rw [h1.1]; exact hi)) (List.getElem?_eq_getElem hi) (List.getElem?_eq_getElem (by rw [h1.1]; exact hi)))
theorem SlR.thin {li lo : Nat} {c : Lb} {W : World} {v : Value} {l : List Op} (h : SlR (opW li) c lo W v l) (hli : 3 < li) (ht : ∀ x ∈ l, CmS x.c) (hs : ∀ x ∈ l, x.c.sco.length ≤ 1048576) : SlR (opE li) c lo W v l := by
  obtain ⟨⟨vs, h1, h2⟩, h3⟩ := h
  refine ⟨⟨vs, ⟨h1.1, fun i a u ha hu => ?_⟩, h2⟩, h3⟩
  have hm : a ∈ l := List.mem_of_getElem? ha
  have hw : TxW li c W u a := h1.2 i a u ha hu
  exact ⟨hw.rd, hw.lb, (ht a hm).ok (hs a hm), fun h => absurd h (by omega)⟩
structure EvA (c : Lb) (W : World) (x : Ev) : Prop where
  o : TxW 300 c W (.slice x.oa x.o.c.sco.length x.oc) x.o
  s : CmS x.o.c
  m : SlR (opW 300) c 300 W (.slice x.ma x.m.ops.length x.mc) x.m.ops
  t : ∀ y ∈ x.m.ops, CmS y.c
  l : x.m.ops.length ≤ 4611686018427387904
def evC (x : Ev) : List Value := [.int .i64 x.ek, .int .i64 x.ew, .int .i64 x.ep, .int .i64 x.o.ed, .int .i64 x.o.sq, .int .i64 x.o.lo, .int .i64 x.o.c.kd, .string ⟨x.o.c.fam.toArray⟩, .int .i64 x.o.c.ser, .int .i64 x.o.c.tok, .string ⟨x.o.c.cli.toArray⟩, .string ⟨x.o.c.usr.toArray⟩, .slice x.oa x.o.c.sco.length x.oc, .string ⟨x.o.c.red.toArray⟩, .string ⟨x.o.c.cha.toArray⟩, .string ⟨x.o.c.met.toArray⟩, .string ⟨x.o.c.ver.toArray⟩, .bool x.o.c.rf, .int .i64 x.o.c.edg, .int .i64 x.m.kd, .int .i64 x.m.fr, .int .i64 x.m.vw, .int .i64 x.m.nr, .int .i64 x.m.ao, .slice x.ma x.m.ops.length x.mc, .int .i64 x.m.cm, .int .i64 x.m.sb, .int .i64 x.m.ls]
def evE : Ek Ev := ⟨28, 62, fun x _ => evC x, fun c W _ x => EvA c W x, fun k => k = 300⟩
theorem TxW.keep {c c' : Lb} {W W' : World} {u : Value} {o : Op} (h : TxW 300 c W u o) (hc : Lx W c c') (hb : ∀ k, k < W.heap.size → c k = 300 → W'.heap[k]? = W.heap[k]?) : TxW 300 c' W' u o := (opW_ok 300).keep c c' W W' u o h hc hb
theorem evE_ok : evE.Ok := by
  refine ⟨by show 0 < 28; decide, fun _ _ => rfl, fun c W x u _ y hy => ?_, fun c c' W W' u x h hc hb => ?_⟩
  · have hy' : y ∈ evC x := hy
    unfold evC at hy'
    simp only [List.mem_cons, List.not_mem_nil, or_false] at hy'
    rcases hy' with rfl | rfl | rfl | rfl | rfl | rfl | rfl | rfl | rfl | rfl | rfl | rfl | rfl | rfl | rfl | rfl | rfl | rfl | rfl | rfl | rfl | rfl | rfl | rfl | rfl | rfl | rfl | rfl <;> rfl
  · exact ⟨EvA.o h |>.keep hc hb, EvA.s h, (EvA.m h).keep (opW_ok 300) hc fun k hk hl => hb k hk (by rcases hl with hl | hl <;> exact hl), EvA.t h, EvA.l h⟩
theorem greatE_no {o : Op} {l : List Op} (h : greatE o l = false) : o.c.sco.length ≤ 200 ∧ l.length ≤ 40 := by
  unfold greatE at h
  rw [Bool.or_eq_false_iff, decide_eq_false_iff_not, decide_eq_false_iff_not] at h
  omega
theorem EvA.tx {c : Lb} {W : World} {x : Ev} (h : EvA c W x) (hg : greatE x.o x.m.ops = false) : TxA 300 c W (.slice x.oa x.o.c.sco.length x.oc) x.o := ⟨h.o.rd, h.o.lb, h.s.ok (by have := (greatE_no hg).1; omega), fun h => absurd h (by decide)⟩
end Go.Proofs.YtdmjegelcdghlaaGreat.Vw
namespace Go.Proofs.YtdmjegelcdghlaaGreat.Vw
open Go.RowKit Go.Maps
set_option linter.unusedVariables false
set_option linter.unusedSimpArgs false
set_option maxRecDepth 100000

def WrS (W : World) (u : Value) (n : Nat) : Prop := (n = 0 ∧ ∃ a c, u = .slice a 0 c) ∨ ∃ g off cap, u = .slice (some ⟨g, off, none⟩) n cap ∧ g < W.heap.size ∧ ∀ j, j < n → (∃ s, W.cell? ⟨g, off + j, none⟩ = some (.string s)) ∧ W.frozen? ⟨g, off + j, none⟩ = false
structure Wi (G : Nat → Prop) (w w' : World) : Prop where
  os : w'.os = w.os
  tape : w'.tape = w.tape
  output : w'.output = w.output
  size : w.heap.size ≤ w'.heap.size
  block : ∀ k, k < w.heap.size → ¬ G k → w'.heap[k]? = w.heap[k]?
  st : ∀ b off v, b < w.heap.size → w.cell? ⟨b, off, none⟩ = some v → w'.cell? ⟨b, off, none⟩ = some v ∨ ((∃ s, v = .string s) ∧ ∃ s, w'.cell? ⟨b, off, none⟩ = some (.string s))
  fz : ∀ b off, b < w.heap.size → w'.frozen? ⟨b, off, none⟩ = w.frozen? ⟨b, off, none⟩
theorem Wi.of_below {w w' : World} (G : Nat → Prop) (h : Below w.heap.size w w') : Wi G w w' :=
  ⟨h.os, h.tape, h.output, h.size, fun k hk _ => h.block k hk, fun b off v hb hv => .inl ((cell_eqK (h.block b hb) off).trans hv), fun b off hb => frz_of (h.block b hb) off⟩
theorem Wi.trans {G : Nat → Prop} {w w1 w2 : World} (h : Wi G w w1) (g : Wi G w1 w2) : Wi G w w2 :=
  ⟨g.os.trans h.os, g.tape.trans h.tape, g.output.trans h.output, Nat.le_trans h.size g.size, fun k hk hn => (g.block k (Nat.lt_of_lt_of_le hk h.size) hn).trans (h.block k hk hn), fun b off v hb hv => by
    have hb1 := Nat.lt_of_lt_of_le hb h.size
    rcases h.st b off v hb hv with h1 | ⟨h1, s, h2⟩
    · exact g.st b off v hb1 h1
    · rcases g.st b off _ hb1 h2 with h3 | ⟨_, h3⟩
      · exact .inr ⟨h1, s, h3⟩
      · exact .inr ⟨h1, h3⟩, fun b off hb => (g.fz b off (Nat.lt_of_lt_of_le hb h.size)).trans (h.fz b off hb)⟩
theorem Wi.mono {G H : Nat → Prop} {w w' : World} (h : Wi G w w') (hs : ∀ k, k < w.heap.size → G k → H k) : Wi H w w' :=
  ⟨h.os, h.tape, h.output, h.size, fun k hk hn => h.block k hk fun e => hn (hs k hk e), h.st, h.fz⟩
theorem Wi.below {G : Nat → Prop} {w w' : World} {B : Nat} (h : Wi G w w') (hB : B ≤ w.heap.size) (hn : ∀ k, k < B → ¬ G k) : Below B w w' :=
  ⟨h.os, h.tape, h.output, h.size, fun k hk => h.block k (by omega) (hn k hk)⟩
theorem WrS.wi {G : Nat → Prop} {W W' : World} {u : Value} {n : Nat} (h : WrS W u n) (g : Wi G W W') : WrS W' u n := by
  rcases h with h | ⟨b, off, cap, e, hb, hc⟩
  · exact .inl h
  · refine .inr ⟨b, off, cap, e, Nat.lt_of_lt_of_le hb g.size, fun j hj => ?_⟩
    obtain ⟨⟨s, h1⟩, h2⟩ := hc j hj
    refine ⟨?_, (g.fz b _ hb).trans h2⟩
    rcases g.st b _ _ hb h1 with h3 | ⟨_, h3⟩
    · exact ⟨s, h3⟩
    · exact h3
theorem WrS.slice {W : World} {u : Value} {n : Nat} (h : WrS W u n) : ∃ a c, u = .slice a n c := by
  rcases h with ⟨rfl, h⟩ | ⟨g, off, cap, e, _⟩
  · exact h
  · exact ⟨_, _, e⟩
theorem WrS.of {W : World} {u : Value} {l : List (List UInt8)} (h : RdS W u l) (hf : 0 < l.length → ∀ g, u.ownBlock = some g → ∀ q, W.frozen? ⟨g, q, none⟩ = false) : WrS W u l.length := by
  rcases h.1.2 with ⟨⟨a, c, e⟩, h0⟩ | ⟨b, off, cap, e, hn, hc⟩
  · exact .inl ⟨h0, a, c, by rw [e]⟩
  · rcases Nat.eq_zero_or_pos l.length with h0 | h0
    · exact .inl ⟨h0, _, cap, by rw [e, h0]⟩
    refine .inr ⟨b, off, cap, e, rd_lt h.1 (by decide) h0 b (by rw [e]; rfl), fun j hj => ⟨?_, hf h0 b (by rw [e]; rfl) _⟩⟩
    obtain ⟨x, hx⟩ : ∃ x, l[j]? = some x := ⟨_, List.getElem?_eq_getElem hj⟩
    exact ⟨_, hc j (sv x) (by rw [List.getElem?_map, hx]; rfl)⟩
theorem Wi.set {W : World} {g off : Nat} {s : ByteArray} (h : W.cell? ⟨g, off, none⟩ = some (.string s)) (t : ByteArray) : Wi (fun k => k = g) W (W.setCell ⟨g, off, none⟩ (.string t)) := by
  have hg : g < W.heap.size := World.block_lt_of_cell? W _ h
  refine ⟨rfl, rfl, rfl, by rw [set_size]; exact Nat.le_refl _, fun k hk hn => set_heap_ne _ _ _ _ _ hn, fun b o v hb hv => ?_, fun b o hb => ?_⟩
  · by_cases e : b = g ∧ o = off
    · obtain ⟨rfl, rfl⟩ := e
      rw [h] at hv
      cases hv
      exact .inr ⟨⟨_, rfl⟩, t, World.cell?_setCell_same' _ _ _ (by rw [h]; rfl)⟩
    · refine .inl ((World.cell?_setCell_other _ _ _ _ fun e2 => e (by cases e2; exact ⟨rfl, rfl⟩)).trans hv)
  · exact World.frozen?_setCell _ _ _ _
set_option maxHeartbeats 4000000 in
theorem wipe_any (o : Op) (u : Value) (w : World) (hu : WrS w u o.c.sco.length) (hl : o.c.sco.length ≤ 1048576) :
    Calls Tryz.prog 21 #[opV o u] w fun e w' => e = .returned (.tuple #[]) ∧ Wi (fun k => 0 < o.c.sco.length ∧ u.ownBlock = some k) w w' := by
  obtain ⟨ua, uc, rfl⟩ := hu.slice
  unfold opV
  have hk := Blk.new w 26 [.int .i64 o.ed, .int .i64 o.sq, .int .i64 o.lo, .int .i64 o.c.kd, .string ⟨o.c.fam.toArray⟩, .int .i64 o.c.ser, .int .i64 o.c.tok, .string ⟨o.c.cli.toArray⟩, .string ⟨o.c.usr.toArray⟩, .slice ua o.c.sco.length uc, .string ⟨o.c.red.toArray⟩, .string ⟨o.c.cha.toArray⟩, .string ⟨o.c.met.toArray⟩, .string ⟨o.c.ver.toArray⟩, .bool o.c.rf, .int .i64 o.c.edg]
  have hb1 : Below w.heap.size w (w.alloc (.cells #[.int .i64 o.ed, .int .i64 o.sq, .int .i64 o.lo, .int .i64 o.c.kd, .string ⟨o.c.fam.toArray⟩, .int .i64 o.c.ser, .int .i64 o.c.tok, .string ⟨o.c.cli.toArray⟩, .string ⟨o.c.usr.toArray⟩, .slice ua o.c.sco.length uc, .string ⟨o.c.red.toArray⟩, .string ⟨o.c.cha.toArray⟩, .string ⟨o.c.met.toArray⟩, .string ⟨o.c.ver.toArray⟩, .bool o.c.rf, .int .i64 o.c.edg] 26)) := (Below.refl _ _).alloc (Nat.le_refl _) _
  obtain ⟨w1, hw1⟩ : ∃ w1, w1 = w.alloc (.cells #[.int .i64 o.ed, .int .i64 o.sq, .int .i64 o.lo, .int .i64 o.c.kd, .string ⟨o.c.fam.toArray⟩, .int .i64 o.c.ser, .int .i64 o.c.tok, .string ⟨o.c.cli.toArray⟩, .string ⟨o.c.usr.toArray⟩, .slice ua o.c.sco.length uc, .string ⟨o.c.red.toArray⟩, .string ⟨o.c.cha.toArray⟩, .string ⟨o.c.met.toArray⟩, .string ⟨o.c.ver.toArray⟩, .bool o.c.rf, .int .i64 o.c.edg] 26) := ⟨_, rfl⟩
  rw [← hw1] at hk hb1
  have HK := Lib.hid (And.intro hk (And.intro hb1 (And.intro hu hl)))
  have HW := Lib.hid hw1
  have z9 := hk.cell 9 rfl
  clear hk hb1 hu hl hw1
  go_enter Tryz.func21, Tryz.ntmps21
  go_wp2_with fail
  rw [← HW.out]
  go_loopw [2] (fun i wr => ∃ k : Nat, k ≤ o.c.sco.length ∧ i = .int .i64 (k : Int) ∧ Wi (fun k => 0 < o.c.sco.length ∧ Value.ownBlock (.slice ua o.c.sco.length uc) = some k) w wr ∧ wr.cell? ⟨w.heap.size, 9, none⟩ = some (.slice ua o.c.sco.length uc)) (fun i _ => o.c.sco.length - (intOf i).toNat)
  case atStart => exact ⟨0, Nat.zero_le _, rfl, Wi.of_below _ HK.out.2.1, z9⟩
  case round =>
    clear z9
    obtain ⟨k, hk, rfl, hi, z9⟩ := hrel
    have HI := Lib.hid (And.intro hi z9)
    clear hi
    by_cases hkn : k < o.c.sco.length
    case neg =>
      have t1 : ¬ (k : Int) < (o.c.sco.length : Int) := by omega
      clear hk hkn
      go_wp2_with fail
      refine bodyPost_end (results_none rfl _ _ _) rfl ?_
      exact ⟨rfl, HI.out.1⟩
    case pos =>
      have t1 : (k : Int) < (o.c.sco.length : Int) := by omega
      rcases HK.out.2.2.1 with h0 | ⟨g0, off0, cap0, e0, hg0, hc0⟩
      · omega
      have HG0 := Lib.hid hg0
      rcases HK.out.2.2.1.wi HI.out.1 with h0 | ⟨g, off, cap, e, hg, hc⟩
      · omega
      cases e0
      cases e
      obtain ⟨⟨s, q1⟩, q2⟩ := hc k hkn
      have HQ := Lib.hid (And.intro q1 (And.intro hkn (And.intro hg HK.out.2.2.1)))
      have HSZ := Lib.hid HK.out.2.2.2
      clear hk hkn hg hc hg0 hc0
      have hne : g0 ≠ w.heap.size := by have := HG0.out; omega
      have HN := Lib.hid (And.intro (HI.out.1.trans ((Wi.set HQ.out.1 ⟨#[111, 118, 101, 114]⟩).mono fun j _ e => (⟨by have := HQ.out.2.1; omega, by rw [e]; rfl⟩ : 0 < o.c.sco.length ∧ Value.ownBlock (.slice (some ⟨g0, off0, none⟩) o.c.sco.length uc) = some j))) ((cell_eqK (set_heap_ne wr g0 (off0 + k) w.heap.size (.string ⟨#[111, 118, 101, 114]⟩) (Ne.symm hne)) 9).trans HI.out.2))
      have HWR : Hid (wrap64 ((k : Int) + 1) = ((k + 1 : Nat) : Int)) := Lib.hid (by have h4 := HQ.out.2.1; have h5 := HSZ.out; rw [IntWalk.wrap64_in _ (by omega)]; omega)
      go_wp2_with fail
      case roundEnd =>
        rw [HWR.out]
        have h4 := HQ.out.2.1
        exact ⟨⟨k + 1, h4, rfl, HN.out⟩, by simp [intOf]; omega⟩
end Go.Proofs.YtdmjegelcdghlaaGreat.Vw
namespace Go.Proofs.YtdmjegelcdghlaaGreat.Vw
open Go.RowKit Go.Maps
set_option linter.unusedVariables false
set_option linter.unusedSimpArgs false
set_option maxRecDepth 100000

theorem kn_cases {n : Nat} (h : 1 ≤ n ∧ n ≤ 7) : n = 1 ∨ n = 2 ∨ n = 3 ∨ n = 4 ∨ n = 5 ∨ n = 6 ∨ n = 7 := by omega
theorem kn_leads (n : Nat) : leads (newR 0 n : Rp Op) = true := by simp [leads, prm, newR]
theorem kn_ok {n : Nat} {o : Op} (h : mayO o = true) : askE mayO (newR 0 n) o = 0 := by
  unfold askE
  rw [h, kn_leads]
  rfl
theorem kn_no {n : Nat} {o : Op} (h : mayO o = false) : askE mayO (newR 0 n) o = 1 := by
  unfold askE
  rw [h]
  rfl
theorem kn_log {n : Nat} (h : 1 ≤ n ∧ n ≤ 7) (o : Op) : (ask (newR 0 n) o).log = [o] := by
  rcases kn_cases h with e | e | e | e | e | e | e <;> subst e <;> kernel_rfl
theorem kn_sv {n : Nat} (h : 1 ≤ n ∧ n ≤ 7) (o : Op) : (ask (newR 0 n) o).saves = [⟨true, 0, 0, [o], 0⟩] := by
  rcases kn_cases h with e | e | e | e | e | e | e <;> subst e <;> kernel_rfl
theorem kn_out {n : Nat} (h : 1 ≤ n ∧ n ≤ 7) (o : Op) : (ask (newR 0 n) o).out.map (fun x => x.m.ops) = List.replicate (n - 1) [o] := by
  rcases kn_cases h with e | e | e | e | e | e | e <;> subst e <;> kernel_rfl
theorem kn_outs {n : Nat} (h : 1 ≤ n ∧ n ≤ 7) (o : Op) : (ask (newR 0 n) o).out.length ≤ 6 ∧ ∀ x ∈ (ask (newR 0 n) o).out, x.m.ops = [o] := by
  have h1 := kn_out h o
  refine ⟨?_, fun x hx => ?_⟩
  · have h2 := congrArg List.length h1
    rw [List.length_map, List.length_replicate] at h2
    omega
  · have h2 : x.m.ops ∈ (ask (newR 0 n) o).out.map (fun x => x.m.ops) := List.mem_map.2 ⟨x, hx, rfl⟩
    rw [h1] at h2
    exact (List.mem_replicate.1 h2).2
def nilE (sz : Nat) (ty : TypeId) : Ek Empty := ⟨sz, ty, fun a _ => a.elim, fun _ _ _ a => a.elim, fun _ => False⟩
theorem Row.keepNil {α : Type} {E : Ek α} (hE : 0 < E.sz) {c c' : Lb} {lo : Nat} {W W' : World} {v : Value} (h : Row E c lo W v []) (hc : Lx W c c') (hb : ∀ k, k < W.heap.size → c k = lo → W'.heap[k]? = W.heap[k]?) : Row E c' lo W' v [] := by
  obtain ⟨⟨vs, h1, h2⟩, h3⟩ := h
  have hok : (nilE E.sz E.ty).Ok := ⟨hE, fun a => a.elim, fun _ _ a => a.elim, fun _ _ _ _ _ a => a.elim⟩
  have h4 : Row (nilE E.sz E.ty) c lo W v [] := ⟨⟨[], Inn.nil _ _ _, h2⟩, h3⟩
  obtain ⟨⟨ws, g1, g2⟩, g3⟩ := h4.keep hok hc fun k hk hl => hb k hk (by
    rcases hl with hl | hl
    · exact absurd hl (fun e => e)
    · exact hl)
  exact ⟨⟨[], Inn.nil _ _ _, g2⟩, g3⟩
theorem RV.keepE {i : Nat} {c c' : Lb} {W W' : World} {p : Nat} {r : Rp Op} (h : RV i c W p r) (hs : r.saves = []) (hc : Lx W c c') (hb : ∀ k, k < W.heap.size → c k = 1 ∨ (c k = 3 ∧ r.out ≠ []) ∨ (10 + 10 * i ≤ c k ∧ c k ≤ 15 + 10 * i) → W'.heap[k]? = W.heap[k]?) : RV i c' W' p r := by
  obtain ⟨h1, lv, hv, ov, sv, uv, h2, h3⟩ := h
  refine ⟨(hc p h2.lt).trans h1, lv, hv, ov, sv, uv, (hb p h2.lt (by omega)).trans h2, h3.lg.keep (opE_ok 1) hc fun k hk hl => hb k hk ?_, h3.hv.keep ntE_ok hc fun k hk hl => hb k hk ?_, ?_, ?_, ?_⟩
  · rcases hl with hl | hl
    · have : c k = 1 := hl
      omega
    · omega
  · rcases hl with hl | hl
    · exact absurd hl (by intro h; exact h)
    · omega
  · rcases h3.of with g1 | ⟨m, g1, g2, g3⟩
    · exact .inl g1
    · refine .inr ⟨m, g1, ?_, g3.keep hc (hb m g3.lt (by omega)) fun k hk hl => hb k hk (by omega)⟩
      rw [hc m g3.lt]; exact g2
  · have g := h3.sv
    rw [hs] at g ⊢
    exact g.keepNil (svE_ok 2).pos hc fun k hk hl => hb k hk (by omega)
  · by_cases ho : r.out = []
    · have g := h3.ou
      rw [ho] at g ⊢
      exact g.keepNil (sdE_ok 3).pos hc fun k hk hl => hb k hk (by omega)
    · refine h3.ou.keep (sdE_ok 3) hc fun k hk hl => hb k hk ?_
      rcases hl with hl | hl
      · have : c k = 3 := hl
        exact .inr (.inl ⟨this, ho⟩)
      · omega
structure NW (c : Lb) (w W : World) : Prop where
  lx : Lx w (fun _ => 300) c
  b : Below w.heap.size w W
theorem NW.refl (w : World) : NW (fun _ => 300) w w := ⟨Lx.refl _ _, Below.refl _ _⟩
theorem NW.fr {i : Nat} {c c' : Lb} {w W W' : World} (h : NW c w W) (hi : i < 7) (hx : Lx W c c') (hf : Fr (Fi i) c W W') : NW c' w W' :=
  ⟨h.lx.trans hx h.b.size, h.b.trans (hf.below h.b.size fun j hj e => by rw [h.lx j hj] at e; have e2 : Fi i 300 := e; unfold Fi at e2; omega)⟩
theorem NW.below {c c' : Lb} {w W W' : World} (h : NW c w W) (hx : Lx W c c') (hb : Below W.heap.size W W') : NW c' w W' :=
  ⟨h.lx.trans hx h.b.size, h.b.trans (hb.mono h.b.size)⟩
theorem NW.wi {G : Nat → Prop} {c : Lb} {w W W' : World} (h : NW c w W) (g : Wi G W W') (hn : ∀ k, k < W.heap.size → G k → c k ≠ 300) : NW c w W' :=
  ⟨h.lx, h.b.trans (g.below h.b.size fun k hk e => hn k (Nat.lt_of_lt_of_le hk h.b.size) e (h.lx k hk))⟩
theorem TxA.wr {li : Nat} {c : Lb} {W : World} {u : Value} {o : Op} (h : TxA li c W u o) (hl : li ≤ 3) : WrS W u o.c.sco.length := WrS.of h.rd (h.fz hl)
theorem TxA.wg {li : Nat} {c : Lb} {W : World} {u : Value} {o : Op} (h : TxA li c W u o) {k : Nat} (hk : 0 < o.c.sco.length ∧ u.ownBlock = some k) : c k = li := h.lb hk.1 k hk.2
end Go.Proofs.YtdmjegelcdghlaaGreat.Vw
namespace Go.Proofs.YtdmjegelcdghlaaGreat.Vw
open Go.RowKit Go.Maps
set_option linter.unusedVariables false
set_option linter.unusedSimpArgs false
set_option maxRecDepth 100000

theorem scope_copy {W : World} {u : Value} (l : List (List UInt8)) (hu : RdS W u l) (hl : l.length ≤ 1048576) :
    ∃ a cp W', (Builtin.append_ #[22, 22] 22 #[.slice (some ⟨W.heap.size, 0, none⟩) 0 0, u]).run Tryz.prog (W.alloc (.cells #[] 9)) = .ok (.slice a l.length cp) W' ∧ RdS W' (.slice a l.length cp) l ∧ Below W.heap.size W W' ∧ ∀ g, (Value.slice a l.length cp).ownBlock = some g → W.heap.size ≤ g ∧ g < W'.heap.size ∧ ∀ q, W'.frozen? ⟨g, q, none⟩ = false := by
  obtain ⟨a0, c0, rfl⟩ := hu.1.slice
  obtain ⟨i0, hi, hz0, hz1, hz2⟩ := info_parts str_row
  have hb0 : Below W.heap.size W (W.alloc (.cells #[] 9)) := (Below.refl W.heap.size W).alloc (Nat.le_refl _) _
  obtain ⟨v', w', hrun, ho, hg, _⟩ := app_run (P := Tryz.prog) (W.alloc (.cells #[] 9)) 22 22 9 W.heap.size i0 (.string ⟨#[]⟩) 1 16 Tryz.underlying22 hi hz0 hz1 hz2 rfl (by decide) (.slice (some ⟨W.heap.size, 0, none⟩) 0 0) 0 [] (own_fresh W 9 1) (.slice a0 l.length c0) l.length (l.map sv) (hu.1.below hb0) (sv_one l) (by unfold maxLen; omega) (by omega) (by rw [World.size_alloc]; omega)
  have hb := below_app (Below.refl W.heap.size W) (Nat.le_refl _) hg (fun k e => by cases e; exact Nat.le_refl _)
  rw [Nat.zero_add, List.nil_append] at ho
  obtain ⟨a, cp, e⟩ := (Rd.of_own ho).slice
  subst e
  exact ⟨a, cp, w', hrun, OwnS.rd ho hu.2, hb, fun g hg => ⟨(World.ownsRow.lt ho g hg).1, (World.ownsRow.lt ho g hg).2, own_frz ho hg⟩⟩
theorem wpList_storeB {P : Program} {ops : Array Oper} {rest : List Oper} {o : Oper} {a : Act} {w : World} {Q : Exit → Act → World → Prop} (hgd : o.guard = none) (ty : TypeId) (x y : Operand) (ho : o.op = .store ty x y)
    (g : Nat) (cs : List Value) (hx : a.eval x = .pointer (some ⟨g, 0, none⟩)) (hy : a.eval y = .agg cs.toArray)
    (t : TypeId) (old : List Value) (hg : Blk w g t old) (hi : (P.info? ty).map (·.size) = some cs.length)
    (hold : old.length = cs.length) (h1 : ∀ u ∈ cs, u.oneCell' = true)
    (h : ∀ w', Blk w' g t cs → w.grownBy w' (some g) → wpList P ops Q rest (a.put o.dst undef) w') : wpList P ops Q (o :: rest) a w := by
  refine wpList_store_row hgd ty x y ho g cs.toArray hx hy t old.toArray hg (by simpa using hi) (by simpa using hold) ?_ ?_
  · rw [Array.all_eq_true_iff_forall_mem]
    intro u hu
    exact h1 u (by simpa using hu)
  · refine h _ ?_ ?_
    · exact setRow_heap w g _ cs.toArray t _ hg
    · exact ⟨rfl, rfl, rfl, by simp [World.setRow], fun k hk hne => setRow_other w g k _ (fun e => hne (by rw [e]))⟩
theorem opC_one (o : Op) (a : Option Addr) (n c : Nat) : ∀ u ∈ opC o (.slice a n c), u.oneCell' = true := by
  intro u hu
  unfold opC at hu
  simp only [List.mem_cons, List.not_mem_nil, or_false] at hu
  rcases hu with rfl | rfl | rfl | rfl | rfl | rfl | rfl | rfl | rfl | rfl | rfl | rfl | rfl | rfl | rfl | rfl <;> rfl
def zeroC : List Value := [.int .i64 0, .int .i64 0, .int .i64 0, .int .i64 0, .string ⟨#[]⟩, .int .i64 0, .int .i64 0, .string ⟨#[]⟩, .string ⟨#[]⟩, .slice none 0 0, .string ⟨#[]⟩, .string ⟨#[]⟩, .string ⟨#[]⟩, .string ⟨#[]⟩, .bool false, .int .i64 0]
theorem range_cellsE {W W' : World} {b o : Nat} {cs : List Value} (h : W.rangeAt b o cs) (he : W'.heap[b]? = W.heap[b]?) : W'.rangeAt b o cs := fun j v hj => (cell_eqK he _).trans (h j v hj)
theorem range_below' {W W' : World} {b o : Nat} {cs : List Value} (h : W.rangeAt b o cs) (hb : Below W.heap.size W W') : W'.rangeAt b o cs := fun j v hj => by
  have h1 := h j v hj
  have h2 := hb.block b (World.block_lt_of_cell? W _ h1)
  exact (cell_eqK h2 _).trans h1
theorem op_wi {G : Nat → Prop} {W W' : World} {b off : Nat} {o : Op} {a : Option Addr} {n c : Nat} (h : W.rangeAt b off (opC o (.slice a n c))) (hb : b < W.heap.size) (g : Wi G W W') : ∃ o' : Op, o'.c.sco = o.c.sco ∧ W'.rangeAt b off (opC o' (.slice a n c)) := by
  have hs : ∀ (j : Nat) (s : ByteArray), (opC o (.slice a n c))[j]? = some (.string s) → ∃ l : List UInt8, W'.cell? ⟨b, off + j, none⟩ = some (.string ⟨l.toArray⟩) := fun j s hj => by
    rcases g.st b (off + j) _ hb (h j _ hj) with h1 | ⟨_, s', h1⟩
    · exact ⟨s.data.toList, by rw [h1]⟩
    · exact ⟨s'.data.toList, by rw [h1]⟩
  have hn : ∀ (j : Nat) v, (opC o (.slice a n c))[j]? = some v → (∀ s, v ≠ .string s) → W'.cell? ⟨b, off + j, none⟩ = some v := fun j v hj hv => by
    rcases g.st b (off + j) _ hb (h j _ hj) with h1 | ⟨⟨s, e⟩, _⟩
    · exact h1
    · exact absurd e (hv s)
  obtain ⟨x4, h4⟩ := hs 4 _ rfl
  obtain ⟨x7, h7⟩ := hs 7 _ rfl
  obtain ⟨x8, h8⟩ := hs 8 _ rfl
  obtain ⟨x10, h10⟩ := hs 10 _ rfl
  obtain ⟨x11, h11⟩ := hs 11 _ rfl
  obtain ⟨x12, h12⟩ := hs 12 _ rfl
  obtain ⟨x13, h13⟩ := hs 13 _ rfl
  refine ⟨⟨o.ed, o.sq, o.lo, ⟨o.c.kd, x4, o.c.ser, o.c.tok, x7, x8, o.c.sco, x10, x11, x12, x13, o.c.rf, o.c.edg⟩⟩, rfl, fun j v hj => ?_⟩
  have hj16 : j < 16 := (List.getElem?_eq_some_iff.1 hj).1
  rcases (by omega : j = 0 ∨ j = 1 ∨ j = 2 ∨ j = 3 ∨ j = 4 ∨ j = 5 ∨ j = 6 ∨ j = 7 ∨ j = 8 ∨ j = 9 ∨ j = 10 ∨ j = 11 ∨ j = 12 ∨ j = 13 ∨ j = 14 ∨ j = 15) with e | e | e | e | e | e | e | e | e | e | e | e | e | e | e | e <;> subst e <;> cases hj
  · exact hn 0 _ rfl (fun s e => by cases e)
  · exact hn 1 _ rfl (fun s e => by cases e)
  · exact hn 2 _ rfl (fun s e => by cases e)
  · exact hn 3 _ rfl (fun s e => by cases e)
  · exact h4
  · exact hn 5 _ rfl (fun s e => by cases e)
  · exact hn 6 _ rfl (fun s e => by cases e)
  · exact h7
  · exact h8
  · exact hn 9 _ rfl (fun s e => by cases e)
  · exact h10
  · exact h11
  · exact h12
  · exact h13
  · exact hn 14 _ rfl (fun s e => by cases e)
  · exact hn 15 _ rfl (fun s e => by cases e)
theorem NewO.fst {B : Nat} {W : World} {v : Value} {o : Op} (h : NewO B W v [o]) : ∃ b cap a c, v = .slice (some ⟨b, 0, none⟩) 1 cap ∧ W.rangeAt b 0 (opC o (.slice a o.c.sco.length c)) ∧ WrS W (.slice a o.c.sco.length c) o.c.sco.length ∧ ∀ g, (Value.slice a o.c.sco.length c).ownBlock = some g → B ≤ g := by
  obtain ⟨vs, h1, h2, h3⟩ := h.ex
  obtain ⟨u, rfl⟩ : ∃ u, vs = [u] := List.length_eq_one_iff.1 h1
  obtain ⟨h4, h5, h6⟩ := h3 0 o u rfl rfl
  obtain ⟨a, c, e⟩ := h4.1.slice
  subst e
  rcases h2.2 with ⟨_, h0⟩ | ⟨g, cap, cur, hv, hB, hh, r⟩
  · cases h0
  · subst hv
    have hfl : flat (opE 0) [o] [.slice a o.c.sco.length c] = opC o (.slice a o.c.sco.length c) := by
      unfold flat
      simp [opE]
    refine ⟨g, cap, a, c, rfl, fun j v hj => ?_, WrS.of h4 fun _ k hk q => (h6 k hk).2.2.2 q, fun k hk => (h6 k hk).1⟩
    have := h2.cells (g := g) rfl j v (by rw [hfl]; exact hj)
    rw [Addr.add_lit] at this
    exact this
theorem SlR.fst {li lo : Nat} {c : Lb} {W : World} {v : Value} {o : Op} (h : SlR (opE li) c lo W v [o]) : ∃ b off cap a k, v = .slice (some ⟨b, off, none⟩) 1 cap ∧ W.rangeAt b off (opC o (.slice a o.c.sco.length k)) ∧ TxA li c W (.slice a o.c.sco.length k) o ∧ b < W.heap.size := by
  obtain ⟨b, off, cap, u, hv, hin, hc⟩ := h.get (opE_ok li) (i := 0) rfl
  have hin' : TxA li c W u o := hin
  obtain ⟨a, k, e⟩ := hin'.rd.1.slice
  subst e
  refine ⟨b, off, cap, a, k, hv, fun j x hj => ?_, hin', World.block_lt_of_cell? W _ (hc 0 _ rfl)⟩
  have := hc j x hj
  rwa [Nat.zero_mul, Nat.add_zero] at this
theorem one_op {w W : World} {c : Lb} (h : NW c w W) {o : Op} {a : Option Addr} {k : Nat} (hu : RdS w (.slice a o.c.sco.length k) o.c.sco) (hc : Gr.CmOk o.c) : ∃ c', Lx W c c' ∧ SlR (opE 300) c' 304 (W.alloc (.cells (opC o (.slice a o.c.sco.length k)).toArray 26)) (.slice (some ⟨W.heap.size, 0, none⟩) 1 1) [o] := by
  have hb : Below W.heap.size W (W.alloc (.cells (opC o (.slice a o.c.sco.length k)).toArray 26)) := (Below.refl _ _).alloc (Nat.le_refl _) _
  have hbw := h.b.trans (hb.mono h.b.size)
  refine ⟨fun j => if j < W.heap.size then c j else 304, fun j hj => if_pos hj, ⟨[.slice a o.c.sco.length k], ⟨rfl, fun i x u hx hu2 => ?_⟩, ?_⟩, fun _ g hg => ?_⟩
  · have hi : i = 0 := by have := (List.getElem?_eq_some_iff.1 hx).1; simpa using this
    subst hi
    cases hx
    cases hu2
    have htx : TxA 300 (fun j => if j < W.heap.size then c j else 304) (W.alloc (.cells (opC o (.slice a o.c.sco.length k)).toArray 26)) (.slice a o.c.sco.length k) o := ⟨rdS_low hu fun h0 g hg hlt => hbw.block g hlt, fun h0 g hg => by
      have hlt := rd_lt hu.1 (by decide) h0 g hg
      show (if g < W.heap.size then c g else 304) = 300
      rw [if_pos (Nat.lt_of_lt_of_le hlt h.b.size)]
      exact h.lx g hlt, hc, fun h3 => absurd h3 (by decide)⟩
    exact htx
  · have hfl : flat (opE 300) [o] [.slice a o.c.sco.length k] = opC o (.slice a o.c.sco.length k) := by
      unfold flat
      simp [opE]
    rw [hfl]
    exact rd_new W 16 1 (opC o (.slice a o.c.sco.length k)) 26 rfl
  · cases hg
    exact if_neg (Nat.lt_irrefl _)
end Go.Proofs.YtdmjegelcdghlaaGreat.Vw
