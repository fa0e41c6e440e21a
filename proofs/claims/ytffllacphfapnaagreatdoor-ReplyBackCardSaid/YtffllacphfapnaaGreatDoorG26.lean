/-
  Chapter 5: members as values; right, form, Text, Int, Bool.
  (Texts put together: Ja Jb.)
-/
import Derived.Test.YtffllacphfapnaaGreatDoorG09
import Derived.Test.YtffllacphfapnaaGreatDoorG04
import Derived.Test.YtffllacphfapnaaGreatDoorShelf
import Derived.Deep.RegionHeld3
namespace Go.Proofs.YtffllacphfapnaaGreatDoor
open Go.RowKit Js

/-- a member's cells -/
def mc (m : Mb) : List Value := [.string ⟨m.nm.toArray⟩, .int .i64 m.kd, .string ⟨m.tx.toArray⟩, .int .i64 m.n, .bool m.b]
/-- a member as a value -/
def mv (m : Mb) : Value := .agg #[.string ⟨m.nm.toArray⟩, .int .i64 m.kd, .string ⟨m.tx.toArray⟩, .int .i64 m.n, .bool m.b]
def mCells (l : List Mb) : List Value := l.flatMap mc
theorem mCells_length (l : List Mb) : (mCells l).length = l.length * 5 := by
  induction l with
  | nil => rfl
  | cons m l ih => simp only [mCells, List.flatMap_cons, List.length_append] at *; simp [mc] at *; omega
theorem mCells_at (l : List Mb) (k : Nat) (h : k < l.length) (j : Nat) (hj : j < 5) : (mCells l)[k * 5 + j]? = (mc l[k])[j]? := by
  induction l generalizing k with
  | nil => simp at h
  | cons m l ih =>
    cases k with
    | zero =>
      simp only [mCells, List.flatMap_cons]
      rw [List.getElem?_append_left (by simp [mc]; omega)]
      simp
    | succ k =>
      simp only [mCells, List.flatMap_cons]
      rw [List.getElem?_append_right (by simp [mc]; omega)]
      have := ih k (by simpa using h)
      rw [show (k + 1) * 5 + j - (mc m).length = k * 5 + j from by simp [mc]; omega]
      simpa [mCells] using this
/-- a slice reads as these members -/
def RdM (W : World) (v : Value) (l : List Mb) : Prop := Rd W 5 v l.length (mCells l)
theorem RdM.below {W W' : World} {v : Value} {l : List Mb} (h : RdM W v l) (hb : Below W.heap.size W W') : RdM W' v l := Rd.below h hb
theorem mv_emp (x : List UInt8) (h : x.isEmpty = true) : ((⟨x.toArray⟩ : ByteArray).toList == (⟨#[]⟩ : ByteArray).toList) = true := by
  rw [ByteArray.toList_eq, ByteArray.toList_eq]; simpa using h
theorem mv_nemp (x : List UInt8) (h : x.isEmpty = false) : ((⟨x.toArray⟩ : ByteArray).toList == (⟨#[]⟩ : ByteArray).toList) = false := by
  rw [ByteArray.toList_eq, ByteArray.toList_eq]; simpa using h
theorem not_run (x : Bool) (w : World) : (Op.unary .not (.bool x)).run Tryz.prog w = .ok (.bool (!x)) w := rfl

set_option maxRecDepth 20000 in
set_option maxHeartbeats 1000000 in
theorem right_any (m : Mb) (w : World) : Calls Tryz.prog 35 #[mv m] w fun e w' => e = .returned (.bool (rt m)) ∧ Below w.heap.size w w' := by
  obtain ⟨nm, kd, tx, n, b⟩ := m
  show Calls Tryz.prog 35 #[.agg #[.string ⟨nm.toArray⟩, .int .i64 kd, .string ⟨tx.toArray⟩, .int .i64 n, .bool b]] w _
  have hnot := not_run
  have hc : (tx = [] ∨ ∃ c t, tx = c :: t) := by cases tx; exact .inl rfl; exact .inr ⟨_, _, rfl⟩
  rcases hc with rfl | ⟨c, t, rfl⟩ <;> cases h2 : (n == 0) <;>
  · have hr : ∀ tx : By, rt ⟨nm, kd, tx, n, b⟩ = if (kd == 0) = true then n == 0 && !b else if (kd == 1) = true then tx.isEmpty && !b else if (kd == 2) = true then tx.isEmpty && n == 0 else false := by
      intro tx; simp [rt]
    rw [h2] at hr
    have HR := Lib.hid hr
    clear hr
    cases k0 : (kd == 0)
    · cases k1 : (kd == 1)
      · cases k2 : (kd == 2)
        · go_enter Tryz.func35, Tryz.ntmps35
          go_wp2
          go_ret
          exact ⟨ret_bool (by rw [HR.out, k0, k1, k2]; rfl), (Below.refl _ _).alloc (Nat.le_refl _) _⟩
        · go_enter Tryz.func35, Tryz.ntmps35
          go_wp2
          go_ret
          exact ⟨ret_bool (by rw [HR.out, k0, k1, k2]; simp), (Below.refl _ _).alloc (Nat.le_refl _) _⟩
      · go_enter Tryz.func35, Tryz.ntmps35
        go_wp2
        go_ret
        exact ⟨ret_bool (by rw [HR.out, k0, k1]; simp), (Below.refl _ _).alloc (Nat.le_refl _) _⟩
    · go_enter Tryz.func35, Tryz.ntmps35
      go_wp2
      go_ret
      exact ⟨ret_bool (by rw [HR.out, k0]; simp), (Below.refl _ _).alloc (Nat.le_refl _) _⟩
end Go.Proofs.YtffllacphfapnaaGreatDoor
namespace Go.Proofs.YtffllacphfapnaaGreatDoor
open Go.RowKit Js
def zm : Mb := ⟨[], 0, [], 0, false⟩
/-- the first member of a name -/
def getM (l : List Mb) (nm : By) : Mb := (l.find? fun m => m.nm == nm).getD zm
theorem hasN_snoc (l : List Mb) (m : Mb) (nm : By) : hasN (l ++ [m]) nm = (hasN l nm || (m.nm == nm)) := by simp [hasN]
theorem hasN_pre (l : List Mb) (k : Nat) (nm : By) (h : hasN (l.take k) nm = true) : hasN l nm = true := by
  rw [hasN, List.any_eq_true] at *
  obtain ⟨x, hx, e⟩ := h
  exact ⟨x, List.mem_of_mem_take hx, e⟩
theorem getM_none (l : List Mb) (nm : By) (h : hasN l nm = false) : getM l nm = zm := by
  unfold getM
  rw [List.find?_eq_none.2]; · rfl
  intro m hm e
  rw [hasN, List.any_eq_false] at h
  exact h m hm e
theorem getM_hit (l : List Mb) (k : Nat) (hk : k < l.length) (nm : By) (h : hasN (l.take k) nm = false) (e : (l[k].nm == nm) = true) : getM l nm = l[k] ∧ hasN l nm = true := by
  constructor
  · unfold getM
    have h2 : l = l.take k ++ l[k] :: l.drop (k + 1) := by rw [← List.drop_eq_getElem_cons hk, List.take_append_drop]
    have h3 : (l.take k).find? (fun m => m.nm == nm) = none := by
      rw [List.find?_eq_none]; intro m hm e
      rw [hasN, List.any_eq_false] at h
      exact h m hm e
    have h4 : (l.take k ++ l[k] :: l.drop (k + 1)).find? (fun m => m.nm == nm) = some l[k] := by
      rw [List.find?_append, h3, List.find?_cons, e]; rfl
    rw [← h2] at h4
    rw [h4]; rfl
  · refine hasN_pre l (k + 1) nm ?_
    rw [List.take_succ_eq_append_getElem hk, hasN_snoc, h, e]; rfl
theorem mc_cells {W : World} {v : Value} {l : List Mb} (h : RdM W v l) (k : Nat) (hk : k < l.length) :
    ∃ b o cap, v = .slice (some ⟨b, o, none⟩) l.length cap ∧ l.length ≤ cap ∧ W.cell? ⟨b, o + k * 5, none⟩ = some (.string ⟨l[k].nm.toArray⟩) ∧ W.cell? ⟨b, o + k * 5 + 1, none⟩ = some (.int .i64 l[k].kd) ∧
      W.cell? ⟨b, o + k * 5 + 2, none⟩ = some (.string ⟨l[k].tx.toArray⟩) ∧ W.cell? ⟨b, o + k * 5 + 3, none⟩ = some (.int .i64 l[k].n) ∧ W.cell? ⟨b, o + k * 5 + 4, none⟩ = some (.bool l[k].b) := by
  obtain ⟨b, o, cap, e, hcap, hc⟩ := h.pos (by omega)
  refine ⟨b, o, cap, e, hcap, ?_⟩
  have at_ := mCells_at l k hk
  have c0 := hc (k * 5) _ (by rw [show k * 5 = k * 5 + 0 from rfl, at_ 0 (by omega)]; rfl)
  have c1 := hc (k * 5 + 1) _ (by rw [at_ 1 (by omega)]; rfl)
  have c2 := hc (k * 5 + 2) _ (by rw [at_ 2 (by omega)]; rfl)
  have c3 := hc (k * 5 + 3) _ (by rw [at_ 3 (by omega)]; rfl)
  have c4 := hc (k * 5 + 4) _ (by rw [at_ 4 (by omega)]; rfl)
  simp only [← Nat.add_assoc] at c1 c2 c3 c4
  exact ⟨c0, c1, c2, c3, c4⟩

theorem load_mb {W : World} {b : Nat} {t : TypeId} {m : Mb} (h : Blk W b t (mc m)) : (loadVar 50 ⟨b, 0, none⟩).run Tryz.prog W = .ok (mv m) W := by
  have z0 := h.cell 0 rfl
  have z1 := h.cell 1 rfl
  have z2 := h.cell 2 rfl
  have z3 := h.cell 3 rfl
  have z4 := h.cell 4 rfl
  simp [go_sem, loadVar, z0, z1, z2, z3, z4, mv]
theorem ret_cell_tmp {fn : Func} {p u : Tmp} (hres : fn.results = #[.cell p 50, .tmp u]) {a : Act} (hd : a.defers = []) {W : World} {b : Nat} {t : TypeId} {m : Mb} (hp : a.tmps.getD p undef = .pointer (some ⟨b, 0, none⟩)) (hb : Blk W b t (mc m)) {R : Ending → World → Prop}
    (h : R (.returned (.tuple #[mv m, a.tmps.getD u undef])) W) : bodyPost Tryz.prog fn R Exit.ret a W := by
  refine bodyPost_ret (v := .tuple #[mv m, a.tmps.getD u undef]) ?_ hd h
  rw [results_cell_tmp hres, hp]
  simp only [asAddr, Sem.run_pure, Result.andThen_ok, load_mb hb]
theorem ret_cell {fn : Func} {p : Tmp} (hres : fn.results = #[.cell p 50]) {a : Act} (hd : a.defers = []) {W : World} {b : Nat} {t : TypeId} {m : Mb} (hp : a.tmps.getD p undef = .pointer (some ⟨b, 0, none⟩)) (hb : Blk W b t (mc m)) {R : Ending → World → Prop}
    (h : R (.returned (mv m)) W) : bodyPost Tryz.prog fn R Exit.ret a W := by
  refine bodyPost_ret (v := mv m) ?_ hd h
  have hp' : a.tmps[p]?.getD undef = .pointer (some ⟨b, 0, none⟩) := by simpa using hp
  simp [results, hres, asAddr, hp', load_mb hb]
/-- a member laid whole into a block -/
theorem Blk.setM {W : World} {b : Nat} {t : TypeId} {m x : Mb} (h : Blk W b t (mc m)) : Blk (((((W.setCell ⟨b, 0, none⟩ (.string ⟨x.nm.toArray⟩)).setCell ⟨b, 1, none⟩ (.int .i64 x.kd)).setCell ⟨b, 2, none⟩ (.string ⟨x.tx.toArray⟩)).setCell ⟨b, 3, none⟩ (.int .i64 x.n)).setCell ⟨b, 4, none⟩ (.bool x.b)) b t (mc x) := by
  have := ((((h.set 0 (.string ⟨x.nm.toArray⟩)).set 1 (.int .i64 x.kd)).set 2 (.string ⟨x.tx.toArray⟩)).set 3 (.int .i64 x.n)).set 4 (.bool x.b)
  simpa [mc] using this
theorem below_setM {W : World} {B b : Nat} {x : Mb} {w0 : World} (h : Below B w0 W) (hb : B ≤ b) : Below B w0 (((((W.setCell ⟨b, 0, none⟩ (.string ⟨x.nm.toArray⟩)).setCell ⟨b, 1, none⟩ (.int .i64 x.kd)).setCell ⟨b, 2, none⟩ (.string ⟨x.tx.toArray⟩)).setCell ⟨b, 3, none⟩ (.int .i64 x.n)).setCell ⟨b, 4, none⟩ (.bool x.b)) :=
  ((((h.setCell hb _).setCell hb _).setCell hb _).setCell hb _).setCell hb _

set_option maxRecDepth 20000 in
set_option maxHeartbeats 1000000 in
theorem get_any (v : Value) (l : List Mb) (nm : By) (w : World) (h : RdM w v l) (hm : l.length ≤ 1152921504606846976) :
    Calls Tryz.prog 16 #[v, .string ⟨nm.toArray⟩] w fun e w' => e = .returned (.tuple #[mv (getM l nm), .bool (hasN l nm)]) ∧ Below w.heap.size w w' := by
  obtain ⟨a, c, rfl⟩ := h.slice
  have HR := Lib.hid h
  clear h
  go_enter Tryz.func16, Tryz.ntmps16
  go_wp2
  go_loopw [10] (fun i wr => ∃ k : Nat, k ≤ l.length ∧ i = .int .i64 k ∧ hasN (l.take k) nm = false ∧ Below w.heap.size w wr ∧ Blk wr w.heap.size 50 (mc zm)) (fun i _ => l.length - (intOf i).toNat)
  case atStart => exact ⟨0, by omega, rfl, by simp [hasN], (Below.refl _ _).alloc (Nat.le_refl _) _, Blk.new _ _ _⟩
  case round =>
    obtain ⟨k, hk, rfl, hno, hb, hz⟩ := hrel
    have hbs := hb.size
    have hlt := hz.lt
    by_cases hkl : k < l.length
    case neg =>
      have ht : l.take k = l := List.take_of_length_le (by omega)
      rw [ht] at hno
      have e1 := getM_none l nm hno
      have E1 := Lib.hid e1
      have E2 := Lib.hid hno
      clear e1 hno ht
      have z0 := hz.cell 0 rfl
      have z1 := hz.cell 1 rfl
      have z2 := hz.cell 2 rfl
      have z3 := hz.cell 3 rfl
      have z4 := hz.cell 4 rfl
      have f0 := hz.frozen 0
      have f1 := hz.frozen 1
      have f2 := hz.frozen 2
      have f3 := hz.frozen 3
      have f4 := hz.frozen 4
      go_wp2
      refine ret_cell_tmp rfl rfl rfl (Blk.setM (x := zm) hz) ?_
      exact ⟨by rw [E1.out, E2.out]; rfl, below_setM (x := zm) hb (Nat.le_refl _)⟩
    case pos =>
    obtain ⟨b, o, cap, e1, hcap, q0, q1, q2, q3, q4⟩ := mc_cells (HR.out.below hb) k hkl
    cases e1
    cases hn : (l[k].nm == nm) with
    | false =>
      have hno2 : hasN (l.take (k + 1)) nm = false := by rw [List.take_succ_eq_append_getElem hkl, hasN_snoc, hno, hn]; rfl
      have HN := Lib.hid hno2
      have hne := str_ne hn
      clear hno hno2
      generalize l[k] = x at q0 q1 q2 q3 q4 hne hn
      go_wp2
      go_roundw
      case rel => exact ⟨k + 1, by omega, by go_num, HN.out, hb.alloc hbs _, hz.alloc _⟩
      case measure => simp [intOf]; omega
    | true =>
      obtain ⟨e1, e2⟩ := getM_hit l k hkl nm hno hn
      have E1 := Lib.hid e1
      have E2 := Lib.hid e2
      have heq := str_eq hn
      have z0 := hz.cell 0 rfl
      have z1 := hz.cell 1 rfl
      have z2 := hz.cell 2 rfl
      have z3 := hz.cell 3 rfl
      have z4 := hz.cell 4 rfl
      have f0 := hz.frozen 0
      have f1 := hz.frozen 1
      have f2 := hz.frozen 2
      have f3 := hz.frozen 3
      have f4 := hz.frozen 4
      clear e1 e2 hno
      generalize l[k] = x at q0 q1 q2 q3 q4 heq hn E1
      go_wp2
      try simp only [Exit.inBlock, Exit.then]
      refine ret_cell_tmp rfl rfl rfl ((Blk.setM (x := x) hz).alloc _) ?_
      exact ⟨by rw [E1.out, E2.out]; rfl, (below_setM (x := x) hb (Nat.le_refl _)).alloc (below_setM (x := x) hb (Nat.le_refl _)).size _⟩

set_option maxRecDepth 20000 in
theorem text_any (nm tx : By) (w : World) : Calls Tryz.prog 19 #[.string ⟨nm.toArray⟩, .string ⟨tx.toArray⟩] w fun e w' => e = .returned (mv ⟨nm, 0, tx, 0, false⟩) ∧ Below w.heap.size w w' := by
  go_enter Tryz.func19, Tryz.ntmps19
  go_wp2
  try simp only [Exit.inBlock, Exit.then]
  refine ret_cell rfl rfl rfl (Blk.new w _ (mc ⟨nm, 0, tx, 0, false⟩)) ?_
  exact ⟨rfl, (Below.refl _ _).alloc (Nat.le_refl _) _⟩
set_option maxRecDepth 20000 in
theorem int_any (nm : By) (n : Int) (w : World) : Calls Tryz.prog 54 #[.string ⟨nm.toArray⟩, .int .i64 n] w fun e w' => e = .returned (mv ⟨nm, 1, [], n, false⟩) ∧ Below w.heap.size w w' := by
  go_enter Tryz.func54, Tryz.ntmps54
  go_wp2
  try simp only [Exit.inBlock, Exit.then]
  refine ret_cell rfl rfl rfl (Blk.new w _ (mc ⟨nm, 1, [], n, false⟩)) ?_
  exact ⟨rfl, (Below.refl _ _).alloc (Nat.le_refl _) _⟩
set_option maxRecDepth 20000 in
theorem bool_any (nm : By) (b : Bool) (w : World) : Calls Tryz.prog 28 #[.string ⟨nm.toArray⟩, .bool b] w fun e w' => e = .returned (mv ⟨nm, 2, [], 0, b⟩) ∧ Below w.heap.size w w' := by
  go_enter Tryz.func28, Tryz.ntmps28
  go_wp2
  try simp only [Exit.inBlock, Exit.then]
  refine ret_cell rfl rfl rfl (Blk.new w _ (mc ⟨nm, 2, [], 0, b⟩)) ?_
  exact ⟨rfl, (Below.refl _ _).alloc (Nat.le_refl _) _⟩
end Go.Proofs.YtffllacphfapnaaGreatDoor
