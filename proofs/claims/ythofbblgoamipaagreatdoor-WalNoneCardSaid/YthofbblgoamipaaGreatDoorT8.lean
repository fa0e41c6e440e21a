/-
  WalNone: the tied card 'WalNoneCardSaid' is proved: for every input the call returns true and each argument reads as it did; the listed variables hold what the program's text lays.
-/
import Derived.Test.YthofbblgoamipaaGreatDoorCards
import Derived.Test.YthofbblgoamipaaGreatDoorTie
import Derived.Test.YthofbblgoamipaaGreatDoorLift
import Derived.Test.YthofbblgoamipaaGreatDoorSt
import Derived.Deep.DeepHandedRow
import Derived.Lay
import Derived.SevenTiedAt
import Derived.Test.YthofbblgoamipaaGreatDoorT6
import Derived.Test.YthofbblgoamipaaGreatDoorRows
import Derived.Stop.LaidErr
import Derived.LaidByTextLater
import Derived.ChangeSlices
import Derived.SizedLaws
namespace Go.Proofs.YthofbblgoamipaaGreatDoor.Wa
open Go.ChangeShapes Go.WideShapes Go.ChangeAt Go.RowKit Go.ChangeMaps Pt
set_option linter.unusedVariables false

structure BytesAt {H : Type} (W : World) (v : Value) (l : By) (d : DataW H) : Prop where
  rd : Rd W 1 v l.length (Lib.byteCells l)
  dat : (d = .nil ∧ l = []) ∨ ∃ es spare, d = .slice es spare ∧ es.length = l.length
theorem u8_wf {n : Int} (h : (Lit.int .u8 n).wf = true) : 0 ≤ n ∧ n ≤ 255 := by
  simp only [Lit.wf, Bool.and_eq_true, decide_eq_true_eq] at h
  rw [show IntKind.u8.min = 0 from rfl, show IntKind.u8.max = 255 from rfl] at h
  exact h
theorem bytes_of (zs : List Int) (h : ∀ n ∈ zs, 0 ≤ n ∧ n ≤ 255) : Lib.byteCells (zs.map fun z => UInt8.ofNat z.toNat) = zs.map (Value.int .u8) := by
  unfold Lib.byteCells
  rw [List.map_map]
  refine List.map_congr_left fun z hz => ?_
  obtain ⟨h0, h1⟩ := h z hz
  show Value.int .u8 ((UInt8.ofNat z.toNat).toNat : Int) = _
  have : (UInt8.ofNat z.toNat).toNat = z.toNat := by simp; omega
  rw [this]; congr 1; omega
set_option maxRecDepth 20000 in
theorem open_bytes {H : Type} {enc : TypeId × Value → H} {W : World} {v : Value} {d : DataW H} {ps : List MemPlace} {r : Reach} {b0 : Nat} (hval : Value.okWide Tryz.prog W r b0 32 v) (h : DataW.Trod enc Tryz.prog W 0 (fun _ => true) true 32 v d ps) :
    ∃ l : By, BytesAt W v l d := by
  obtain ⟨a1, l1, c1, rfl⟩ := okWide_slice Tryz.underlying32 hval
  obtain ⟨fuel, hf⟩ := h
  rcases open_ints Tryz.underlying32 Tryz.underlying5 (by kernel_rfl) hf with ⟨hcs, hx⟩ | ⟨a, len, cap, zs, hcs, _, hlc, hcm, hzl, hx, hc, hwf⟩
  · simp [Value.cells] at hcs
    simp only [Prod.mk.injEq] at hx
    obtain ⟨rfl, rfl, rfl⟩ := hcs
    exact ⟨[], Rd.nil _ _, .inl ⟨hx.1, rfl⟩⟩
  · simp [Value.cells] at hcs
    simp only [Prod.mk.injEq] at hx
    obtain ⟨rfl, rfl, rfl⟩ := hcs
    have hzl' : zs.length = c1 := by simpa using hzl
    have hlen : (zs.take l1).length = l1 := by rw [List.length_take]; omega
    by_cases hl0 : l1 = 0
    · subst hl0
      exact ⟨[], ⟨by simp [Lib.byteCells], .inl ⟨⟨_, _, rfl⟩, rfl⟩⟩, .inr ⟨_, _, hx.1, by simp [lits]⟩⟩
    obtain ⟨b, off, spot⟩ := a
    obtain rfl : spot = none := by simpa [Addr.add] using World.cell?_spot (hc 0 (by omega))
    have hby := bytes_of (zs.take l1) (fun n hn => u8_wf (hwf n (List.mem_of_mem_take hn)))
    refine ⟨(zs.take l1).map fun z => UInt8.ofNat z.toNat, ⟨by rw [Lib.byteCells_length, Nat.mul_one], .inr ⟨b, off, c1, by rw [List.length_map, hlen], by rw [List.length_map, hlen]; omega, fun j u hj => ?_⟩⟩, .inr ⟨_, _, hx.1, by simp [lits]⟩⟩
    rw [hby] at hj
    have hjl : j < l1 := by
      have := (List.getElem?_eq_some_iff.1 hj).1
      rw [List.length_map, hlen] at this
      exact this
    have := hc j (by omega)
    rw [Addr.add_lit] at this
    rw [this]
    rw [List.getElem?_map, List.getElem?_take_of_lt hjl] at hj
    rw [← hj]
    simp [List.getD, show j < zs.length by omega]
set_option maxRecDepth 20000 in
theorem BytesAt.short {H : Type} {W : World} {v : Value} {l : By} {d : DataW H} (h : BytesAt W v l d) {ts : List TypeId} {ds : List (DataW H)} (hz : (DataW.weightsEach Tryz.prog ts ds).all (· ≤ reachBytes) = true) {j : Nat} (ht : ts[j]? = some 32) (hd : ds[j]? = some d) : l.length ≤ 140737488351232 := by
  rcases h.dat with ⟨_, rfl⟩ | ⟨es, spare, rfl, hl⟩
  · simp
  · have hs := sized_slice hz ht hd Tryz.underlying32
    rw [show Tryz.prog.bytesOf 5 = 1 from by kernel_rfl, show reachBytes = 140737488351232 from rfl] at hs
    omega
set_option maxRecDepth 20000 in
theorem BytesAt.sh {H : Type} {W : World} {v : Value} {l : By} {d : DataW H} (h : BytesAt W v l d) {ts : List TypeId} {ds : List (DataW H)} (hz : (DataW.weightsEach Tryz.prog ts ds).all (· ≤ reachBytes) = true) {j : Nat} (ht : ts[j]? = some 32) (hd : ds[j]? = some d) : l.length ≤ 288230376151711744 := by
  have := h.short hz ht hd; omega
end Go.Proofs.YthofbblgoamipaaGreatDoor.Wa
namespace Go.Proofs.YthofbblgoamipaaGreatDoor.walNone
open Go.ChangeShapes Go.WideShapes Go.ChangeAt Go.RowKit Go.ChangeMaps Wa
set_option linter.unusedVariables false

set_option maxRecDepth 20000 in
theorem contract (H : Type) (enc : TypeId × Value → H) (W : World) (base : Nat) (args : Array Value) (ds gs : List (DataW H)) (before : List MemPlace)
    (hval : ∀ (j : Nat) t v, Tryz.f4.params[j]? = some t → args[j]? = some v → Value.okWide Tryz.prog W .any base t v)
    (hW : DataW.Whole enc Tryz.prog Tryz.f4.params.toList Rows.walNoneSpec.vars false W args.toList ds gs before)
    (hz : (DataW.weightsEach Tryz.prog (Tryz.f4.params.toList ++ (OpenSpec.ofChange Rows.walNoneSpec).bare.plain.varTypes Tryz.prog) (ds ++ gs)).all (· ≤ reachBytes) = true) (hsh : W.ShapedOpen Tryz.prog) :
    Calls Tryz.prog 4 args W fun e W' => ∃ v, e = .returned v ∧ Rows.walNoneSpec.post enc Tryz.prog Tryz.f4 false true false false W args v W' := by
  have hW' := hW
  obtain ⟨p, q, hA0, hV, rfl, hfz, hnd⟩ := hW
  have hA : DataW.TrodAll enc Tryz.prog W 0 (fun _ => true) true Tryz.f4.params.toList args.toList ds p := hA0
  rw [Tryz.params4] at hA hval
  obtain ⟨v0, vs0, d0, ds0, p0, q0, hargs, rfl, rfl, h0, r0⟩ := trodAll_cons hA
  obtain ⟨v1, vs1, d1, ds1, p1, q1, rfl, rfl, rfl, h1, r1⟩ := trodAll_cons r0
  obtain ⟨v2, vs2, d2, ds2, p2, q2, rfl, rfl, rfl, h2, r2⟩ := trodAll_cons r1
  obtain ⟨rfl, rfl, rfl⟩ := trodAll_nil r2
  obtain rfl : args = #[v0, v1, v2] := by cases args; simp_all
  obtain ⟨rfl, rfl⟩ := trodVars_none hV
  obtain ⟨a0, rfl, rfl, rfl, w0⟩ := open_string Tryz.underlying9 (hval 0 9 v0 rfl rfl) h0
  have z0 : a0.size ≤ 140737488351232 := by have h := sized_string hz (j := 0) rfl rfl; rw [Array.length_toList] at h; have h2 : reachBytes = 140737488351232 := rfl; show a0.data.size ≤ _; omega
  obtain ⟨a1, rfl, rfl, rfl, w1⟩ := open_int Tryz.underlying3 (hval 1 3 v1 rfl rfl) h1
  obtain ⟨a2, n2⟩ := open_bytes (hval 2 32 v2 rfl rfl) h2
  obtain ⟨x0, rfl⟩ : ∃ x : List UInt8, a0 = ⟨x.toArray⟩ := ⟨_, st_mk a0⟩
  rw [st_size] at z0
  refine (walNone_any x0 a2 a1 v2 W (by omega) n2.rd (by have h := n2.short hz (j := 2) rfl rfl; omega)).mono fun e W' ⟨he, hb⟩ => ?_
  subst he
  exact ⟨_, rfl, law_post (tb := 4) hW' Tryz.laidOut rfl (by kernel_rfl) (by kernel_rfl) Tryz.underlying4 rfl hb⟩

theorem reads (os : Os) {H : Type} (enc : TypeId × Value → H) : ∃ places, DataW.whole enc Tryz.prog ((World.laidAll Tryz.prog os Rows.walNoneRow.laid).forCall (fun _ _ => 0) ⟨#[], #[.string ⟨#[]⟩, .int .i64 0, .slice none 0 0], []⟩).memory Tryz.f4.params.toList Rows.walNoneSpec.vars false (#[.string ⟨#[]⟩, .int .i64 0, .slice none 0 0] : Array Value).toList 8 = some ([.lit (.string []), .lit (.int .i64 0), .nil], [], places) :=
  ⟨[], by kernel_rfl⟩

set_option maxRecDepth 100000 in
theorem lifted (os : Os) (started : os.Started) (H : Type) (enc : TypeId × Value → H) (F : Stop.Interp) :
    ReturnsInHanded {} Tryz.checked os 4 .any ((OpenSpec.ofChange Rows.walNoneSpec).preRow enc Tryz.prog Tryz.f4 Rows.walNoneRow.domain false Rows.walNoneRow.laid) (((OpenSpec.ofChange Rows.walNoneSpec).at F).post enc Tryz.prog Tryz.f4 false true false false) := by
  obtain ⟨places, hx⟩ := reads os enc
  refine returnsInHanded_of_row (C := Tryz.checked) (s := OpenSpec.ofChange Rows.walNoneSpec) Tryz.own started (by kernel_rfl) Tryz.func4
    ⟨World.laidAll Tryz.prog os Rows.walNoneRow.laid, fun _ _ => 0, ⟨#[], #[.string ⟨#[]⟩, .int .i64 0, .slice none 0 0], []⟩, World.laidAll_os _ _ _, World.shaped_of_ZipB (by kernel_rfl) (by kernel_rfl), rfl, (Input.okWide_of_okWideB (base := 0) (by kernel_rfl)).2,
      OpenSpec.preRow_of_cond 8 hx (by kernel_rfl) (fun k hk => by cases hk) (by kernel_rfl) (by rw [MakeChecks.laidMetH_plain _ _ _ (by kernel_rfl)]; exact laidMet_laidAll _ (by kernel_rfl) (by kernel_rfl)),
      by simp [Assume.holds]⟩ ?_
  intro W base args ds gs before hval hW _ _ hz _ hsh _
  exact contract H enc W base args ds gs before hval hW hz hsh

theorem said : Rows.WalNoneSaid :=
  OpenClaim.holds_of_cond 4 Tryz.f4 rfl rfl rfl rfl rfl rfl rfl ⟨rfl, rfl, rfl, rfl, rfl⟩ rfl rfl rfl rfl rfl (by kernel_rfl) Tryz.func4 (by kernel_rfl)
    (of_decide_eq_true (by kernel_rfl)) (by unfold Func.isWrapper; first | (rw [if_pos (by decide +kernel)]; kernel_rfl) | (rw [if_neg (by decide +kernel)]; exact ⟨rfl, rfl⟩))
    (fun os started H enc _ F => by rw [OpenClaim.pre_eq_preRow]; exact lifted os started H enc F)

/-- no parameter wants a stand-in; the program's own looks are on -/
theorem plain (f : FuncId) (fn : Func) (hf : Tryz.pinned.checked.prog.funcNamed "signet/signetlaw12.WalNone" = some f) (hfn : Tryz.pinned.checked.prog.funcs[f]? = some fn) :
    true = Tryz.pinned.checked.prog.looks [] ∧ ∀ (j : Nat) t, fn.params[j]? = some t → Tryz.pinned.checked.prog.wantsStandIn t = false := by
  obtain rfl : f = 4 := Option.some.inj ((show Tryz.prog.funcNamed "signet/signetlaw12.WalNone" = some 4 by kernel_rfl).symm.trans hf) |>.symm
  obtain rfl : fn = Tryz.f4 := (Option.some.inj (Tryz.func4.symm.trans hfn)).symm
  refine ⟨by kernel_rfl, fun j t ht => ?_⟩
  rw [Tryz.params4] at ht
  have hm : t ∈ [9, 3, 32] := by simpa using Array.mem_of_getElem? ht
  have hall : ([9, 3, 32].all fun u => !Tryz.prog.wantsStandIn u) = true := by kernel_rfl
  exact (show Tryz.prog.wantsStandIn t = false by simpa using List.all_eq_true.1 hall t hm)

theorem proved : Rows.WalNoneCardSaid :=
  Claim7.holds_tied_plain_at .later [] _ _ _ _ said (fun _ h => by cases h) (by kernel_rfl) (fun _ h => by cases h) walNone_row_tie rfl ⟨rfl, rfl⟩ (by kernel_rfl) rfl plain (by kernel_rfl)
end Go.Proofs.YthofbblgoamipaaGreatDoor.walNone
