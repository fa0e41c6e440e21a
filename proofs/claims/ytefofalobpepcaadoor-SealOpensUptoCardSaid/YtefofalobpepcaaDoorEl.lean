/-
  Chapter 16: two tokens compared; the chapter's example, walked.
-/
import Derived.Test.YtefofalobpepcaaDoorEk
import Derived.Deep.QuietTactic
import Derived.BigQuiet
import Derived.Laws.StructEq
import Derived.Lib.SmallJoins
namespace Go.Proofs.YtefofalobpepcaaDoor.Se
open Go.RowKit
set_option linter.unusedVariables false

theorem tk_flds : (Tryd.prog.fieldsOf 24).toList.map (fun f => (f.name == "_", f.type, f.offset)) = [(false, 3, 0), (false, 9, 1), (false, 3, 2)] := by kernel_rfl
theorem ne_of_beq {a b : String} (h : (a == b) = false) : a ≠ b := by simpa using h
theorem tk_list : ∃ f0 f1 f2 : Field, (Tryd.prog.fieldsOf 24).toList = [f0, f1, f2] ∧ f0.name ≠ "_" ∧ f1.name ≠ "_" ∧ f2.name ≠ "_" ∧
    f0.type = 3 ∧ f1.type = 9 ∧ f2.type = 3 ∧ f0.offset = 0 ∧ f1.offset = 1 ∧ f2.offset = 2 := by
  have h := tk_flds
  generalize (Tryd.prog.fieldsOf 24).toList = L at h
  rcases L with _ | ⟨f0, _ | ⟨f1, _ | ⟨f2, _ | ⟨f3, L⟩⟩⟩⟩
  all_goals simp only [List.map_cons, List.map_nil, List.cons.injEq, Prod.mk.injEq, reduceCtorEq, and_false, and_true] at h
  obtain ⟨⟨a0, b0, c0⟩, ⟨a1, b1, c1⟩, ⟨a2, b2, c2⟩⟩ := h
  exact ⟨f0, f1, f2, rfl, ne_of_beq a0, ne_of_beq a1, ne_of_beq a2, b0, b1, b2, c0, c1, c2⟩
theorem part_plain {t : TypeId} (ht : ∀ w : World, (isAgg t).run Tryd.prog w = .ok false w) (cs : Array Value) (k : Nat) (v : Value) (h : cs[k]? = some v) (w : World) : (part t cs k).run Tryd.prog w = .ok v w := by
  unfold part
  simp [ht, h]
theorem agg_str (w : World) : (isAgg 9).run Tryd.prog w = .ok false w := by unfold isAgg; simp [run_underlying Tryd.underlying9]
theorem agg_int (w : World) : (isAgg 3).run Tryd.prog w = .ok false w := by unfold isAgg; simp [run_underlying Tryd.underlying3]
/-- are two tokens one? -/
def sameT (x y : Tk) : Bool := x.kd == y.kd && x.fam == y.fam && x.ser == y.ser
theorem sameT_iff (x y : Tk) : sameT x y = true ↔ x = y := by
  obtain ⟨a, b, c⟩ := x
  obtain ⟨a', b', c'⟩ := y
  simp only [sameT, Bool.and_eq_true, beq_iff_eq, Tk.mk.injEq]
  constructor
  · rintro ⟨⟨h1, h2⟩, h3⟩; exact ⟨h1, h2, h3⟩
  · rintro ⟨h1, h2, h3⟩; exact ⟨⟨h1, h2⟩, h3⟩
theorem str_beq (a b : By) : ((⟨a.toArray⟩ : ByteArray).toList == (⟨b.toArray⟩ : ByteArray).toList) = (a == b) := by
  rw [ByteArray.toList_eq, ByteArray.toList_eq]
theorem eqin_tk (x y : Tk) (w : World) : (Op.equalIn 10000 24 (tkv x) (tkv y)).run Tryd.prog w = .ok (sameT x y) w := by
  have hst : Tryd.prog.stoodInHeld 24 = false := by kernel_rfl
  have hun : Tryd.prog.underlying 24 = some (.struct (Tryd.prog.fieldsOf 24)) := by kernel_rfl
  obtain ⟨f0, f1, f2, hl, n0, n1, n2, t0, t1, t2, o0, o1, o2⟩ := tk_list
  unfold tkv
  rw [show (10000 : Nat) = 9998 + 1 + 1 from rfl, run_equalIn_agg _ _ _ _ _ hun hst, hl]
  have us := Tryd.underlying9
  have ui := Tryd.underlying3
  have ps : ∀ (cs : Array Value) (k : Nat) (v : Value), cs[k]? = some v → (part 9 cs k).run Tryd.prog w = .ok v w := fun cs k v h => part_plain agg_str cs k v h w
  have pi : ∀ (cs : Array Value) (k : Nat) (v : Value), cs[k]? = some v → (part 3 cs k).run Tryd.prog w = .ok v w := fun cs k v h => part_plain agg_int cs k v h w
  simp only [Op.eqFields, n0, n1, n2, t0, t1, t2, o0, o1, o2, ne_eq, not_false_eq_true, if_true, Sem.run_bind]
  rw [pi _ 0 (.int .i64 x.kd) rfl, Result.andThen_ok, pi _ 0 (.int .i64 y.kd) rfl, Result.andThen_ok, run_equalIn_int _ _ _ _ _ _ _ ui, Result.andThen_ok, sameT]
  cases h0 : (x.kd == y.kd)
  · simp
  simp only [Bool.not_true, Bool.false_eq_true, if_false, Sem.run_bind, Bool.true_and]
  rw [ps _ 1 (.string ⟨x.fam.toArray⟩) rfl, Result.andThen_ok, ps _ 1 (.string ⟨y.fam.toArray⟩) rfl, Result.andThen_ok, run_equalIn_string _ _ _ _ _ us, Result.andThen_ok, str_beq]
  cases h1 : (x.fam == y.fam)
  · simp
  simp only [Bool.not_true, Bool.false_eq_true, if_false, Sem.run_bind, Bool.true_and]
  rw [pi _ 2 (.int .i64 x.ser) rfl, Result.andThen_ok, pi _ 2 (.int .i64 y.ser) rfl, Result.andThen_ok, run_equalIn_int _ _ _ _ _ _ _ ui, Result.andThen_ok]
  cases h2 : (x.ser == y.ser) <;> simp
theorem eql_tk (x y : Tk) (w : World) : (binOp .eql 24 (.agg #[.int .i64 x.kd, .string ⟨x.fam.toArray⟩, .int .i64 x.ser]) (.agg #[.int .i64 y.kd, .string ⟨y.fam.toArray⟩, .int .i64 y.ser])).run Tryd.prog w = .ok (.bool (sameT x y)) w := by
  have h := eqin_tk x y w
  unfold tkv at h
  rw [run_eql_struct, h, Result.andThen_ok]
theorem guard_tk (op : BinOp) (x y : Operand) (xs ys : Array Value) (w : World) : (eqGuard op 24 x y (.agg xs) (.agg ys)).run Tryd.prog w = .ok () w :=
  run_eqGuard_agg w op _ x y xs ys (by kernel_rfl)
theorem eql_self (kd : Int) (fam : By) (ser : Int) (w : World) : (binOp .eql 24 (.agg #[.int .i64 kd, .string ⟨fam.toArray⟩, .int .i64 ser]) (.agg #[.int .i64 kd, .string ⟨fam.toArray⟩, .int .i64 ser])).run Tryd.prog w = .ok (.bool true) w := by
  have h := eql_tk ⟨kd, fam, ser⟩ ⟨kd, fam, ser⟩ w
  rw [(sameT_iff _ _).2 rfl] at h
  exact h

def k1 : By := [99, 46, 102, 49, 46, 48, 46, 65, 65, 65, 65, 65, 65, 65, 65, 65, 65, 65, 65, 65, 65, 65, 65]
def k2 : By := [97, 46, 102, 49, 46, 48, 55, 46, 65, 65, 65, 65, 65, 65, 65, 65, 65, 65, 65, 65, 65, 65, 65, 65]
theorem itoa_0 : Lib.itoa 0 = [48] := by unfold Lib.itoa; rw [if_neg (by decide)]; unfold Lib.decDigits; simp
theorem itoa_7 : Lib.itoa 7 = [55] := by unfold Lib.itoa; rw [if_neg (by decide)]; unfold Lib.decDigits; simp
theorem peek_k1 : peek k1 = some ⟨1, [102, 49], 0⟩ := by
  have h := peek_head ⟨1, [102, 49], 0⟩ (List.replicate 16 65) (by decide)
  have e : head ⟨1, [102, 49], 0⟩ ++ List.replicate 16 65 = k1 := by unfold head; simp only [itoa_0]; rfl
  rw [e] at h
  rw [h, if_pos (by decide)]
theorem peek_k2 : peek k2 = none := by
  have c1 : cut k2 = some ([97], [102, 49, 46, 48, 55, 46, 65, 65, 65, 65, 65, 65, 65, 65, 65, 65, 65, 65, 65, 65, 65, 65]) := by decide
  have c2 : cut [102, 49, 46, 48, 55, 46, 65, 65, 65, 65, 65, 65, 65, 65, 65, 65, 65, 65, 65, 65, 65, 65] = some ([102, 49], [48, 55, 46, 65, 65, 65, 65, 65, 65, 65, 65, 65, 65, 65, 65, 65, 65, 65, 65]) := by decide
  have c3 : cut [48, 55, 46, 65, 65, 65, 65, 65, 65, 65, 65, 65, 65, 65, 65, 65, 65, 65, 65] = some ([48, 55], List.replicate 16 65) := by decide
  have c4 : Lib.atoiAll [48, 55] = .ok 7 := by decide
  rw [peek_y c1 c2 c3 c4, if_neg]
  rintro ⟨-, -, h, -⟩
  have := congrArg List.length h
  unfold head at this
  simp only [itoa_7] at this
  revert this; decide
theorem mk_k (sec : By) : ∃ mt : By, (mk sec ⟨2, [102, 49], 7⟩) = (mt, 0) ∧ mt.length = 23 ∧ mt.take 7 = [97, 46, 102, 49, 46, 55, 46] := by
  have e : head ⟨2, [102, 49], 7⟩ = [97, 46, 102, 49, 46, 55, 46] := by unfold head; simp only [itoa_7]; rfl
  refine ⟨[97, 46, 102, 49, 46, 55, 46] ++ tag sec [97, 46, 102, 49, 46, 55, 46], ?_, ?_, ?_⟩
  · unfold mk; rw [if_pos (by decide), e]
  · rw [List.length_append, (tag_ok _ _).1]; rfl
  · rfl
set_option maxRecDepth 20000 in
set_option maxHeartbeats 4000000 in
theorem known_any (B : Nat) (w : World) (hB : B ≤ w.heap.size) (hL : Hid (LaidS B w)) :
    Calls Tryd.prog 11 #[] w fun e w' => e = .returned (.bool true) ∧ Below w.heap.size w w' := by
  have HB := Lib.hid hB
  clear hB
  go_enter Tryd.func11, Tryd.ntmps11
  go_wp2_with fail
  refine (peek_any k1 w (by decide) (Lib.hid (hL.out.mono HB.out))).mono ?_
  rintro e w1 ⟨rfl, hb1⟩
  rw [pk_yes peek_k1]
  have hB1 := Blk.new w1 24 [.int .i64 1, .string ⟨#[102, 49]⟩, .int .i64 0]
  have hbA := hb1.alloc hb1.size (.cells #[.int .i64 1, .string ⟨#[102, 49]⟩, .int .i64 0] 24)
  clear hb1
  go_wp2_with fail
  refine (peek_any k2 _ (by decide) (Lib.hid ((hL.out.on (hbA.mono HB.out)).mono (Nat.le_trans HB.out hbA.size)))).mono ?_
  rintro e w2 ⟨rfl, hb2⟩
  rw [pk_no peek_k2]
  have hB2 := (hB1.below hb2 hB1.lt).alloc (.cells #[.int .i64 0, .string ⟨#[]⟩, .int .i64 0] 24)
  have hbB := (hbA.trans (hb2.mono hbA.size)).alloc (hbA.trans (hb2.mono hbA.size)).size (.cells #[.int .i64 0, .string ⟨#[]⟩, .int .i64 0] 24)
  clear hB1 hbA hb2
  have hcv := Go.Joins.run_convert_bytes_const_at (P := Tryd.prog) (w2.alloc (.cells #[.int .i64 0, .string ⟨#[]⟩, .int .i64 0] 24)) 22 5 #[.int .u8 107] 1 1 (w2.heap.size + 1) (by simp) Tryd.underlying22 Tryd.underlying5
  have hB3 := hB2.alloc (.cells #[.int .u8 107] 5 (1, 2))
  have hbC := hbB.alloc hbB.size (.cells #[.int .u8 107] 5 (1, 2))
  have hrd : Rd ((w2.alloc (.cells #[.int .i64 0, .string ⟨#[]⟩, .int .i64 0] 24)).alloc (.cells #[.int .u8 107] 5 (1, 2))) 1 (.slice (some ⟨w2.heap.size + 1, 0, none⟩) 1 1) 1 (Lib.byteCells [107]) := by
    refine ⟨rfl, .inr ⟨w2.heap.size + 1, 0, 1, rfl, Nat.le_refl _, fun j u hj => ?_⟩⟩
    rw [Go.Joins.cell_alloc_mark_at _ _ _ _ _ _ (by simp), Nat.zero_add]
    have hby : Lib.byteCells [107] = [.int .u8 107] := rfl
    rw [hby] at hj
    simpa using hj
  obtain ⟨mt, hmt, hml, hm7⟩ := mk_k [107]
  have HM := Lib.hid (make_any _ [107] ⟨2, [102, 49], 7⟩ _ hrd (by decide) (by decide) (fun W h => hL.out.tab W ((hbC.trans (h.mono hbC.size)).mono HB.out)))
  unfold tkv mkV at HM
  rw [hmt] at HM
  simp only at HM
  clear hB2 hbB hrd hmt
  go_wp2_with fail
  refine HM.out.mono ?_
  rintro e w4 ⟨rfl, hb4⟩
  have hB5 := hB3.below hb4 hB3.lt
  have hb5 := hbC.trans (hb4.mono hbC.size)
  clear hB3 hbC hb4 HM hcv
  have c0 := hB5.cell 0 rfl
  have c1 := hB5.cell 1 rfl
  have c2 := hB5.cell 2 rfl
  have heq := eql_self 1 [102, 49] 0
  have hgd := guard_tk
  have hsz := st_size mt
  have hex : (⟨mt.toArray⟩ : ByteArray).extract 0 7 = ⟨#[97, 46, 102, 49, 46, 55, 46]⟩ := by rw [st_extract]; simp [hm7]
  clear hm7 hB5
  go_wp2_with fail
  go_ret
  exact ⟨rfl, hb5⟩
end Go.Proofs.YtefofalobpepcaaDoor.Se
