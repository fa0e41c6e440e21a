/-
  Chapter 16: what the rows' listed variables give the walks; arguments that are bytes, a token.
-/
import Derived.Test.YtefofalobpepcaaDoorEm
import Derived.Test.YtefofalobpepcaaDoorRows
import Derived.Test.YtefofalobpepcaaDoorLift
import Derived.Stop.LaidErr
import Derived.LaidByTextLater
import Derived.Lib.SmallJoins
import Derived.ChangeSlices
import Derived.SizedLaws
namespace Go.Proofs.YtefofalobpepcaaDoor.Se
open Go.Joins Go.ChangeShapes Go.WideShapes Go.ChangeAt Go.RowKit Go.ChangeMaps
set_option linter.unusedVariables false

theorem star_is : "*" ++ "errors.errorString" = "*errors.errorString" := by decide
theorem err_row (u : TypeId) (h : Tryd.prog.typeName? 3 u = some "*errors.errorString") : u = 123 :=
  typeName_ptr_named (nm := "errors.errorString") (by rw [star_is]; kernel_rfl) (by kernel_rfl) (by decide) u (by rw [star_is]; exact h)
theorem laid_here {W : World} (h : laidMetH Tryd.prog Rows.sealBackRow.laid W) (hsh : W.ShapedOpen Tryd.prog) : LaidS W.heap.size W := by
  rw [MakeChecks.laidMetH_plain _ _ _ (by kernel_rfl)] at h
  have h3 := laidMet.tail (laidMet.tail h)
  have h4 := laidMet.tail h3
  have h5 := laidMet.tail h4
  have h1 : Lib.TabIs Tryd.prog W "internal/strconv.uint64pow10" .u64 Lib.pow10Tab := Lib.tabIs_of_head (t := 127) (e := 75) (n := 20) (g := 3) (by kernel_rfl) (by kernel_rfl) (by kernel_rfl) (by kernel_rfl) (by kernel_rfl) (by kernel_rfl) h3
  obtain ⟨a, s, hr, _⟩ := laid_sentinel (g := 2) (ti := 57) (tp := 123) (te := 125) (ts := 9) h4 (by kernel_rfl) (by kernel_rfl) Tryd.underlying57 err_row (by kernel_rfl) Tryd.underlying125 rfl rfl (by kernel_rfl) (by kernel_rfl) (by kernel_rfl)
  obtain ⟨a2, s2, hs, _⟩ := laid_sentinel (g := 1) (ti := 57) (tp := 123) (te := 125) (ts := 9) h5 (by kernel_rfl) (by kernel_rfl) Tryd.underlying57 err_row (by kernel_rfl) Tryd.underlying125 rfl rfl (by kernel_rfl) (by kernel_rfl) (by kernel_rfl)
  obtain ⟨m, hm⟩ : ∃ m, W.cell? ⟨0, 0, none⟩ = some (.int .i64 m) := Tryd.laysM143.s1_3 W hsh
  have hg : 0 < W.heap.size := World.block_lt_of_cell? W _ hm
  exact ⟨LaidB.start h1 ⟨_, _, hs⟩ ⟨_, _, hr⟩, m, fun W' hb => (hb.cell (p := ⟨0, 0, none⟩) hg).trans hm⟩

/-- v reads as the bytes l, its datum is d -/
structure BytesAt {H : Type} (W : World) (v : Value) (l : By) (d : DataW H) : Prop where
  rd : Rd W 1 v l.length (Lib.byteCells l)
  dat : (d = .nil ∧ l = []) ∨ ∃ es spare, d = .slice es spare ∧ es.length = l.length
theorem u8_wf {n : Int} (h : (Lit.int .u8 n).wf = true) : 0 ≤ n ∧ n ≤ 255 := by
  simp only [Lit.wf, Bool.and_eq_true, decide_eq_true_eq] at h
  rw [show IntKind.u8.min = 0 from rfl, show IntKind.u8.max = 255 from rfl] at h
  exact h
theorem bytes_of (zs : List Int) (h : ∀ n ∈ zs, 0 ≤ n ∧ n ≤ 255) : Lib.byteCells (zs.map fun z => UInt8.ofNat z.toNat) = zs.map (Value.int .u8) := by
  unfold Lib.byteCells
  rw [List.map_map]
  refine List.map_congr_left fun z hz => ?_
  obtain ⟨h0, h1⟩ := h z hz
  show Value.int .u8 ((UInt8.ofNat z.toNat).toNat : Int) = _
  have : (UInt8.ofNat z.toNat).toNat = z.toNat := by simp; omega
  rw [this]; congr 1; omega
set_option maxRecDepth 20000 in
theorem open_bytes {H : Type} {enc : TypeId × Value → H} {W : World} {v : Value} {d : DataW H} {ps : List MemPlace} {r : Reach} {b0 : Nat} (hval : Value.okWide Tryd.prog W r b0 22 v) (h : DataW.Trod enc Tryd.prog W 0 (fun _ => true) true 22 v d ps) :
    ∃ l : By, BytesAt W v l d := by
  obtain ⟨a1, l1, c1, rfl⟩ := okWide_slice Tryd.underlying22 hval
  obtain ⟨fuel, hf⟩ := h
  rcases open_ints Tryd.underlying22 Tryd.underlying5 (by kernel_rfl) hf with ⟨hcs, hx⟩ | ⟨a, len, cap, zs, hcs, _, hlc, hcm, hzl, hx, hc, hwf⟩
  · simp [Value.cells] at hcs
    simp only [Prod.mk.injEq] at hx
    obtain ⟨rfl, rfl, rfl⟩ := hcs
    exact ⟨[], Rd.nil _ _, .inl ⟨hx.1, rfl⟩⟩
  · simp [Value.cells] at hcs
    simp only [Prod.mk.injEq] at hx
    obtain ⟨rfl, rfl, rfl⟩ := hcs
    have hzl' : zs.length = c1 := by simpa using hzl
    have hlen : (zs.take l1).length = l1 := by rw [List.length_take]; omega
    by_cases hl0 : l1 = 0
    · subst hl0
      exact ⟨[], ⟨by simp [Lib.byteCells], .inl ⟨⟨_, _, rfl⟩, rfl⟩⟩, .inr ⟨_, _, hx.1, by simp [lits]⟩⟩
    obtain ⟨b, off, spot⟩ := a
    obtain rfl : spot = none := by simpa [Addr.add] using World.cell?_spot (hc 0 (by omega))
    have hby := bytes_of (zs.take l1) (fun n hn => u8_wf (hwf n (List.mem_of_mem_take hn)))
    refine ⟨(zs.take l1).map fun z => UInt8.ofNat z.toNat, ⟨by rw [Lib.byteCells_length, Nat.mul_one], .inr ⟨b, off, c1, by rw [List.length_map, hlen], by rw [List.length_map, hlen]; omega, fun j u hj => ?_⟩⟩, .inr ⟨_, _, hx.1, by simp [lits]⟩⟩
    rw [hby] at hj
    have hjl : j < l1 := by
      have := (List.getElem?_eq_some_iff.1 hj).1
      rw [List.length_map, hlen] at this
      exact this
    have := hc j (by omega)
    rw [Addr.add_lit] at this
    rw [this]
    rw [List.getElem?_map, List.getElem?_take_of_lt hjl] at hj
    rw [← hj]
    simp [List.getD, show j < zs.length by omega]
set_option maxRecDepth 20000 in
theorem BytesAt.short {H : Type} {W : World} {v : Value} {l : By} {d : DataW H} (h : BytesAt W v l d) {ts : List TypeId} {ds : List (DataW H)} (hz : (DataW.weightsEach Tryd.prog ts ds).all (· ≤ reachBytes) = true) {j : Nat} (ht : ts[j]? = some 22) (hd : ds[j]? = some d) : l.length ≤ 140737488351232 := by
  rcases h.dat with ⟨_, rfl⟩ | ⟨es, spare, rfl, hl⟩
  · simp
  · have hs := sized_slice hz ht hd Tryd.underlying22
    rw [show Tryd.prog.bytesOf 5 = 1 from by kernel_rfl, show reachBytes = 140737488351232 from rfl] at hs
    omega
set_option maxRecDepth 20000 in
theorem BytesAt.sh {H : Type} {W : World} {v : Value} {l : By} {d : DataW H} (h : BytesAt W v l d) {ts : List TypeId} {ds : List (DataW H)} (hz : (DataW.weightsEach Tryd.prog ts ds).all (· ≤ reachBytes) = true) {j : Nat} (ht : ts[j]? = some 22) (hd : ds[j]? = some d) : l.length ≤ 288230376151711744 := by
  have := h.short hz ht hd; omega
set_option maxRecDepth 20000 in
theorem open_tk {H : Type} {enc : TypeId × Value → H} {W : World} {v : Value} {d : DataW H} {ps : List MemPlace} {r : Reach} {b0 : Nat} (hval : Value.okWide Tryd.prog W r b0 24 v) (h : DataW.Trod enc Tryd.prog W 0 (fun _ => true) true 24 v d ps) :
    ∃ t : Tk, v = tkv t ∧ t.fam.length ≤ 9223372036854775807 := by
  obtain ⟨v0, v1, v2, y0, y1, y2, n, rfl, _, _, t0, t1, t2⟩ := open_agg3 Tryd.underlying24 (by kernel_rfl) (by kernel_rfl) hval h
  obtain ⟨n0, e0, _⟩ := DataW.trod_int Tryd.underlying3 t0
  obtain ⟨s1, e1, _, z1⟩ := DataW.trod_string Tryd.underlying9 t1
  obtain ⟨n2, e2, _⟩ := DataW.trod_int Tryd.underlying3 t2
  simp only [List.cons.injEq, and_true] at e0 e1 e2
  subst e0 e1 e2
  refine ⟨⟨n0, s1.data.toList, n2⟩, by unfold tkv; rw [← st_mk], ?_⟩
  show s1.data.toList.length ≤ _
  rw [Array.length_toList]
  exact z1
theorem sealBack_card (sv : Value) (sec : By) (tv : Value) (t : Tk) (ht : tv = tkv t ∧ t.fam.length ≤ 9223372036854775807) (w : World) (hs : Rd w 1 sv sec.length (Lib.byteCells sec)) (hl : sec.length ≤ 288230376151711744) (hL : Hid (LaidS w.heap.size w)) :
    Calls Tryd.prog 6 #[sv, tv] w fun e w' => e = .returned (.bool true) ∧ Below w.heap.size w w' := by
  obtain ⟨rfl, hm⟩ := ht
  exact sealBack_walk sv sec t.kd t.fam t.ser w hs hl hm hL
theorem sealAlone_card (sv : Value) (sec s : By) (ov : Value) (oth : By) (tv : Value) (t : Tk) (ht : tv = tkv t ∧ t.fam.length ≤ 9223372036854775807) (w : World) (hs : Rd w 1 sv sec.length (Lib.byteCells sec)) (hl : sec.length ≤ 288230376151711744) (hsl : s.length ≤ 140737488355328)
    (ho : Rd w 1 ov oth.length (Lib.byteCells oth)) (hol : oth.length ≤ 288230376151711744) (hL : Hid (LaidS w.heap.size w)) :
    Calls Tryd.prog 7 #[sv, .string ⟨s.toArray⟩, ov, tv] w fun e w' => e = .returned (.bool true) ∧ Below w.heap.size w w' := by
  obtain ⟨rfl, hm⟩ := ht
  exact sealAlone_walk sv sec s ov oth t.kd t.fam t.ser w hs hl hsl ho hol hm hL
theorem sealTags_card (sv : Value) (sec : By) (tv : Value) (t : Tk) (ht : tv = tkv t ∧ t.fam.length ≤ 9223372036854775807) (tg : By) (w : World) (hs : Rd w 1 sv sec.length (Lib.byteCells sec)) (hl : sec.length ≤ 288230376151711744) (htl : tg.length ≤ 140737488351232) (hL : Hid (LaidS w.heap.size w)) :
    Calls Tryd.prog 8 #[sv, tv, .string ⟨tg.toArray⟩] w fun e w' => e = .returned (.bool true) ∧ Below w.heap.size w w' := by
  obtain ⟨rfl, hm⟩ := ht
  exact sealTags_walk sv sec t.kd t.fam t.ser tg w hs hl hm htl hL
end Go.Proofs.YtefofalobpepcaaDoor.Se
