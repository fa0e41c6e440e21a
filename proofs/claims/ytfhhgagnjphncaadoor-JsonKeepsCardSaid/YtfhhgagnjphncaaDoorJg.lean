/-
  Chapter 5, the reference's Same. Condition: fewer than 2^60 members.
-/
import Derived.Test.YtfhhgagnjphncaaDoorJb
import Derived.Deep.QuietTactic
import Derived.BigQuiet
import Derived.Laws.StructEq
namespace Go.Proofs.YtfhhgagnjphncaaDoor
open Go.RowKit Js

theorem mb_flds : (Tryd.prog.fieldsOf 38).toList.map (fun f => (f.name == "_", f.type, f.offset)) = [(false, 9, 0), (false, 3, 1), (false, 9, 2), (false, 3, 3), (false, 4, 4)] := by kernel_rfl
theorem ne_of_beq {a b : String} (h : (a == b) = false) : a ≠ b := by simpa using h
theorem mb_list : ∃ f0 f1 f2 f3 f4 : Field, (Tryd.prog.fieldsOf 38).toList = [f0, f1, f2, f3, f4] ∧ f0.name ≠ "_" ∧ f1.name ≠ "_" ∧ f2.name ≠ "_" ∧ f3.name ≠ "_" ∧ f4.name ≠ "_" ∧
    f0.type = 9 ∧ f1.type = 3 ∧ f2.type = 9 ∧ f3.type = 3 ∧ f4.type = 4 ∧ f0.offset = 0 ∧ f1.offset = 1 ∧ f2.offset = 2 ∧ f3.offset = 3 ∧ f4.offset = 4 := by
  have h := mb_flds
  generalize (Tryd.prog.fieldsOf 38).toList = L at h
  rcases L with _ | ⟨f0, _ | ⟨f1, _ | ⟨f2, _ | ⟨f3, _ | ⟨f4, _ | ⟨f5, L⟩⟩⟩⟩⟩⟩
  all_goals simp only [List.map_cons, List.map_nil, List.cons.injEq, Prod.mk.injEq, reduceCtorEq, and_false, and_true] at h
  obtain ⟨⟨a0, b0, c0⟩, ⟨a1, b1, c1⟩, ⟨a2, b2, c2⟩, ⟨a3, b3, c3⟩, ⟨a4, b4, c4⟩⟩ := h
  exact ⟨f0, f1, f2, f3, f4, rfl, ne_of_beq a0, ne_of_beq a1, ne_of_beq a2, ne_of_beq a3, ne_of_beq a4, b0, b1, b2, b3, b4, c0, c1, c2, c3, c4⟩
theorem part_plain {t : TypeId} (ht : ∀ w : World, (isAgg t).run Tryd.prog w = .ok false w) (cs : Array Value) (k : Nat) (v : Value) (h : cs[k]? = some v) (w : World) : (part t cs k).run Tryd.prog w = .ok v w := by
  unfold part
  simp [ht, h]
theorem agg_str (w : World) : (isAgg 9).run Tryd.prog w = .ok false w := by unfold isAgg; simp [run_underlying Tryd.underlying9]
theorem agg_int (w : World) : (isAgg 3).run Tryd.prog w = .ok false w := by unfold isAgg; simp [run_underlying Tryd.underlying3]
theorem agg_bool (w : World) : (isAgg 4).run Tryd.prog w = .ok false w := by unfold isAgg; simp [run_underlying Tryd.underlying4]
/-- are two members one? -/
def sameM (x y : Mb) : Bool := x.nm == y.nm && x.kd == y.kd && x.tx == y.tx && x.n == y.n && x.b == y.b
theorem sameM_iff (x y : Mb) : sameM x y = true ↔ x = y := by
  obtain ⟨a, b, c, d, e⟩ := x
  obtain ⟨a', b', c', d', e'⟩ := y
  simp only [sameM, Bool.and_eq_true, beq_iff_eq, Mb.mk.injEq]
  constructor
  · rintro ⟨⟨⟨⟨h1, h2⟩, h3⟩, h4⟩, h5⟩; exact ⟨h1, h2, h3, h4, h5⟩
  · rintro ⟨h1, h2, h3, h4, h5⟩; exact ⟨⟨⟨⟨h1, h2⟩, h3⟩, h4⟩, h5⟩
theorem str_beq (a b : By) : ((⟨a.toArray⟩ : ByteArray).toList == (⟨b.toArray⟩ : ByteArray).toList) = (a == b) := by
  rw [ByteArray.toList_eq, ByteArray.toList_eq]
theorem eqin_mb (x y : Mb) (w : World) : (Op.equalIn 10000 38 (mv x) (mv y)).run Tryd.prog w = .ok (sameM x y) w := by
  have hst : Tryd.prog.stoodInHeld 38 = false := by kernel_rfl
  have hun : Tryd.prog.underlying 38 = some (.struct (Tryd.prog.fieldsOf 38)) := by kernel_rfl
  obtain ⟨f0, f1, f2, f3, f4, hl, n0, n1, n2, n3, n4, t0, t1, t2, t3, t4, o0, o1, o2, o3, o4⟩ := mb_list
  unfold mv
  rw [show (10000 : Nat) = 9998 + 1 + 1 from rfl, run_equalIn_agg _ _ _ _ _ hun hst, hl]
  have us := Tryd.underlying9
  have ui := Tryd.underlying3
  have ub := Tryd.underlying4
  have ps : ∀ (cs : Array Value) (k : Nat) (v : Value), cs[k]? = some v → (part 9 cs k).run Tryd.prog w = .ok v w := fun cs k v h => part_plain agg_str cs k v h w
  have pi : ∀ (cs : Array Value) (k : Nat) (v : Value), cs[k]? = some v → (part 3 cs k).run Tryd.prog w = .ok v w := fun cs k v h => part_plain agg_int cs k v h w
  have pb : ∀ (cs : Array Value) (k : Nat) (v : Value), cs[k]? = some v → (part 4 cs k).run Tryd.prog w = .ok v w := fun cs k v h => part_plain agg_bool cs k v h w
  simp only [Op.eqFields, n0, n1, n2, n3, n4, t0, t1, t2, t3, t4, o0, o1, o2, o3, o4, ne_eq, not_false_eq_true, if_true, Sem.run_bind]
  rw [ps _ 0 (.string ⟨x.nm.toArray⟩) rfl, Result.andThen_ok, ps _ 0 (.string ⟨y.nm.toArray⟩) rfl, Result.andThen_ok, run_equalIn_string _ _ _ _ _ us, Result.andThen_ok, str_beq, sameM]
  cases h0 : (x.nm == y.nm)
  · simp
  simp only [Bool.not_true, Bool.false_eq_true, if_false, Sem.run_bind, Bool.true_and]
  rw [pi _ 1 (.int .i64 x.kd) rfl, Result.andThen_ok, pi _ 1 (.int .i64 y.kd) rfl, Result.andThen_ok, run_equalIn_int _ _ _ _ _ _ _ ui, Result.andThen_ok]
  cases h1 : (x.kd == y.kd)
  · simp
  simp only [Bool.not_true, Bool.false_eq_true, if_false, Sem.run_bind, Bool.true_and]
  rw [ps _ 2 (.string ⟨x.tx.toArray⟩) rfl, Result.andThen_ok, ps _ 2 (.string ⟨y.tx.toArray⟩) rfl, Result.andThen_ok, run_equalIn_string _ _ _ _ _ us, Result.andThen_ok, str_beq]
  cases h2 : (x.tx == y.tx)
  · simp
  simp only [Bool.not_true, Bool.false_eq_true, if_false, Sem.run_bind, Bool.true_and]
  rw [pi _ 3 (.int .i64 x.n) rfl, Result.andThen_ok, pi _ 3 (.int .i64 y.n) rfl, Result.andThen_ok, run_equalIn_int _ _ _ _ _ _ _ ui, Result.andThen_ok]
  cases h3 : (x.n == y.n)
  · simp
  simp only [Bool.not_true, Bool.false_eq_true, if_false, Sem.run_bind, Bool.true_and]
  rw [pb _ 4 (.bool x.b) rfl, Result.andThen_ok, pb _ 4 (.bool y.b) rfl, Result.andThen_ok, run_equalIn_bool' _ _ _ _ _ ub, Result.andThen_ok]
  cases h4 : (x.b == y.b) <;> simp
/-- '!=' on two members -/
theorem neq_mb (x y : Mb) (w : World) : (binOp .neq 38 (.agg #[.string ⟨x.nm.toArray⟩, .int .i64 x.kd, .string ⟨x.tx.toArray⟩, .int .i64 x.n, .bool x.b]) (.agg #[.string ⟨y.nm.toArray⟩, .int .i64 y.kd, .string ⟨y.tx.toArray⟩, .int .i64 y.n, .bool y.b])).run Tryd.prog w = .ok (.bool (!sameM x y)) w := by
  have h := eqin_mb x y w
  unfold mv at h
  rw [run_neq_struct, h, Result.andThen_ok]
theorem eql_mb (x y : Mb) (w : World) : (binOp .eql 38 (.agg #[.string ⟨x.nm.toArray⟩, .int .i64 x.kd, .string ⟨x.tx.toArray⟩, .int .i64 x.n, .bool x.b]) (.agg #[.string ⟨y.nm.toArray⟩, .int .i64 y.kd, .string ⟨y.tx.toArray⟩, .int .i64 y.n, .bool y.b])).run Tryd.prog w = .ok (.bool (sameM x y)) w := by
  have h := eqin_mb x y w
  unfold mv at h
  rw [run_eql_struct, h, Result.andThen_ok]
theorem guard_mb (op : BinOp) (x y : Operand) (xs ys : Array Value) (w : World) : (eqGuard op 38 x y (.agg xs) (.agg ys)).run Tryd.prog w = .ok () w :=
  run_eqGuard_agg w op _ x y xs ys (by kernel_rfl)

set_option maxRecDepth 20000 in
set_option maxHeartbeats 1000000 in
theorem same_len (v u : Value) (l m : List Mb) (w : World) (h : RdM w v l) (h' : RdM w u m) (hne : l.length ≠ m.length) :
    Calls Tryd.prog 15 #[v, u] w fun e w' => e = .returned (.bool false) ∧ w' = w := by
  obtain ⟨a, c, rfl⟩ := h.slice
  obtain ⟨a', c', rfl⟩ := h'.slice
  have hb : ((l.length : Int) != (m.length : Int)) = true := by simp; omega
  have hb2 : ((l.length : Int) == (m.length : Int)) = false := by simp; omega
  have hb3 : ¬ (l.length : Int) = (m.length : Int) := by omega
  clear h h'
  go_enter Tryd.func15, Tryd.ntmps15
  go_wp2
  go_ret
  exact ⟨rfl, rfl⟩
theorem take_grow {l m : List Mb} {k : Nat} (h1 : k < l.length) (h2 : k < m.length) (h : l.take k = m.take k) (e : l[k] = m[k]) : l.take (k + 1) = m.take (k + 1) := by
  rw [List.take_succ_eq_append_getElem h1, List.take_succ_eq_append_getElem h2, h, e]
set_option maxRecDepth 20000 in
set_option maxHeartbeats 1000000 in
theorem same_eq (v u : Value) (l m : List Mb) (w : World) (h : RdM w v l) (h' : RdM w u m) (hl : l.length = m.length) (hm : l.length ≤ 1152921504606846976) :
    Calls Tryd.prog 15 #[v, u] w fun e w' => (∃ t : Bool, e = .returned (.bool t) ∧ (t = true ↔ l = m)) ∧ Below w.heap.size w w' := by
  obtain ⟨a, c, rfl⟩ := h.slice
  obtain ⟨a', c', rfl⟩ := h'.slice
  have hb : ((l.length : Int) != (m.length : Int)) = false := by simp; omega
  have hb2 : ((l.length : Int) == (m.length : Int)) = true := by simp; omega
  have HR := Lib.hid h
  have HS := Lib.hid h'
  clear h h'
  go_enter Tryd.func15, Tryd.ntmps15
  go_wp2
  go_loopw [5] (fun i wr => ∃ k : Nat, k ≤ l.length ∧ i = .int .i64 k ∧ l.take k = m.take k ∧ Below w.heap.size w wr) (fun i _ => l.length - (intOf i).toNat)
  case atStart => exact ⟨0, by omega, rfl, by simp, Below.refl _ _⟩
  case round =>
    obtain ⟨k, hk, rfl, heq, hbw⟩ := hrel
    have HE := Lib.hid heq
    clear heq
    by_cases hkl : k < l.length
    case neg =>
      have e : l = m := by
        have := HE.out
        rw [List.take_of_length_le (by omega), List.take_of_length_le (by omega)] at this
        exact this
      have HF := Lib.hid e
      clear e
      go_wp2
      go_ret
      exact ⟨⟨true, rfl, by simp [HF.out]⟩, hbw⟩
    case pos =>
    have i0 : (0 : Int) ≤ (k : Int) := by omega
    have i1 : (k : Int) < (l.length : Int) := by omega
    have i2 : (k : Int) < (m.length : Int) := by omega
    obtain ⟨b, o, cap, e1, hcap, p0, p1, p2, p3, p4⟩ := mc_cells (HR.out.below hbw) k hkl
    cases e1
    obtain ⟨b2, o2, cap2, e2, hcap2, q0, q1, q2, q3, q4⟩ := mc_cells (HS.out.below hbw) k (by omega)
    cases e2
    cases hs : sameM l[k] m[k] with
    | true =>
      have hg := take_grow hkl (by omega) HE.out ((sameM_iff _ _).1 hs)
      have HG := Lib.hid hg
      have hn := fun w => neq_mb l[k] m[k] w
      simp only [hs] at hn
      clear hg hs
      generalize l[k] = x at p0 p1 p2 p3 p4 hn
      generalize m[k] = y at q0 q1 q2 q3 q4 hn
      have hgd := guard_mb
      go_wp2
      go_quiet (fail)
      go_wp2
      go_roundw
      case rel => exact ⟨k + 1, by omega, by go_num, HG.out, below_drewN hbw _⟩
      case measure => simp [intOf]; omega
    | false =>
      have hne : l ≠ m := by
        intro e
        have : sameM l[k] m[k] = true := (sameM_iff _ _).2 (by simp only [e])
        rw [hs] at this; cases this
      have HN := Lib.hid hne
      have hn := fun w => neq_mb l[k] m[k] w
      simp only [hs] at hn
      clear hne hs
      generalize l[k] = x at p0 p1 p2 p3 p4 hn
      generalize m[k] = y at q0 q1 q2 q3 q4 hn
      have hgd := guard_mb
      go_wp2
      go_quiet (fail)
      go_wp2
      go_ret
      exact ⟨⟨false, rfl, by simp [HN.out]⟩, below_drewN hbw _⟩
/-- the reference's Same, of any two lists -/
theorem same_any (v u : Value) (l m : List Mb) (w : World) (h : RdM w v l) (h' : RdM w u m) (hm : l.length ≤ 1152921504606846976) :
    Calls Tryd.prog 15 #[v, u] w fun e w' => (∃ t : Bool, e = .returned (.bool t) ∧ (t = true ↔ l = m)) ∧ Below w.heap.size w w' := by
  by_cases hl : l.length = m.length
  · exact same_eq v u l m w h h' hl hm
  · refine (same_len v u l m w h h' hl).mono ?_
    rintro e w' ⟨rfl, rfl⟩
    exact ⟨⟨false, rfl, ⟨fun h => (by cases h), fun e => absurd (by rw [e]) hl⟩⟩, Below.refl _ _⟩
end Go.Proofs.YtfhhgagnjphncaaDoor
