/-
  Chapter 15, plain: clients; the map of clients as memory.
-/
import Derived.Test.YtonbpekogfaibaaGreatOc
import Derived.Test.YtonbpekogfaibaaGreatNj
import Derived.Test.YtonbpekogfaibaaGreatWc
import Derived.Deep.CondSized
namespace Go.Proofs.YtonbpekogfaibaaGreat.Ro
open Go.RowKit Go.Maps Go.Sort
set_option linter.unusedVariables false
set_option maxRecDepth 20000

/-- a client -/
structure Cl where
  id : By
  sec : By
  pub : Bool
  red : List By
  sco : List By
  gra : List By
abbrev V3 := Value × Value × Value
/-- a client's six cells -/
def c6 (c : Cl) (v : V3) : List Value := [.string ⟨c.id.toArray⟩, .string ⟨c.sec.toArray⟩, .bool c.pub, v.1, v.2.1, v.2.2]
/-- an api.Client as a value -/
def av (c : Cl) (v : V3) : Value := .agg #[.string ⟨c.id.toArray⟩, .string ⟨c.sec.toArray⟩, .bool c.pub, v.1, v.2.1, v.2.2]
/-- a roll's client as a value -/
abbrev cv (c : Cl) (v : V3) : Value := av c v
def z3 : V3 := (.slice none 0 0, .slice none 0 0, .slice none 0 0)
def noC : Cl := ⟨[], [], false, [], [], []⟩
/-- the client of an Id -/
def find (cs : List Cl) (x : By) : Option Cl := cs.find? fun c => c.id == x
theorem find_name {cs : List Cl} {x : By} {c : Cl} (h : find cs x = some c) : c ∈ cs ∧ c.id = x := by
  refine ⟨List.mem_of_find?_eq_some h, ?_⟩
  have := List.find?_some h
  simpa using this
theorem find_snoc (cs : List Cl) (c : Cl) (x : By) : find (cs ++ [c]) x = (find cs x).or (if c.id = x then some c else none) := by
  unfold find
  rw [List.find?_append, List.find?_singleton]
  by_cases h : c.id = x
  · rw [if_pos h, if_pos (by simpa using h)]
  · rw [if_neg h, if_neg (by simpa using h)]
/-- a client's lists read so -/
def RdC (W : World) (c : Cl) (v : V3) : Prop := RdS W v.1 c.red ∧ RdS W v.2.1 c.sco ∧ RdS W v.2.2 c.gra
theorem RdC.below {W W' : World} {c : Cl} {v : V3} (h : RdC W c v) (hb : Below W.heap.size W W') : RdC W' c v := ⟨h.1.below hb, h.2.1.below hb, h.2.2.below hb⟩
def hR (v : Value) : Option (DataW Value × List MemPlace) := some (.held v, [])
def cvOf (cs : List Cl) (sl : By → V3) (x : By) : Value := match find cs x with | some c => cv c (sl x) | none => cv noC z3
/-- the map of clients -/
def RM (W : World) (m : Nat) (cs : List Cl) (sl : By → V3) : Prop :=
  ∃ D : DataW Value, W.ownsMap Tryz.prog 9 hR m cs.length D ∧ Tidy D ∧ ∀ x, has D (.string x) = (find cs x).isSome ∧ ∀ c, find cs x = some c → ∀ zd, D.atKey (.string x) zd = .held (cv c (sl x))
theorem RM.lt {W : World} {m : Nat} {cs : List Cl} {sl : By → V3} (h : RM W m cs sl) : m < W.heap.size := by
  obtain ⟨D, h1, _⟩ := h
  exact h1.lt
theorem RM.keep {W W' : World} {m : Nat} {cs : List Cl} {sl : By → V3} (h : RM W m cs sl) (hb : W'.heap[m]? = W.heap[m]?) : RM W' m cs sl := by
  obtain ⟨D, ⟨es, clock, h0, F, hs, hD⟩, h2⟩ := h
  exact ⟨D, ⟨es, clock, hb.trans h0, F, hs, hD⟩, h2⟩
theorem client_zero (w : World) : (zeroValue 54).run Tryz.prog w = .ok (av noC z3) w := by kernel_rfl
/-- m[x], with ok -/
theorem RM.look {W : World} {m : Nat} {cs : List Cl} {sl : By → V3} (h : RM W m cs sl) (x : By) (hx : x.length ≤ 9223372036854775807) :
    (Instr.lookup 50 (.map (some m)) (.string ⟨x.toArray⟩) true).run Tryz.prog W = .ok (.tuple #[cvOf cs sl x, .bool (find cs x).isSome]) W := by
  obtain ⟨D, h1, _, h2⟩ := h
  obtain ⟨v, ps, hrun, hv⟩ := h1.look_ok skey Tryz.underlying50 (client_zero W) (zd := .held (cv noC z3)) (zp := []) rfl (key := .string ⟨x.toArray⟩) (WideMaps.keyOf_string_mk Tryz.underlying9 (by rw [st_size]; exact hx))
  have e : (⟨x.toArray⟩ : ByteArray).data.toList = x := rfl
  rw [e] at hv hrun
  rw [hrun, (h2 x).1]
  congr 2
  unfold hR at hv
  unfold cvOf
  cases hg : find cs x with
  | some c =>
    rw [(h2 x).2 c hg] at hv
    simp at hv
    rw [hv.1]
  | none =>
    have hno : has D (.string x) = false := by rw [(h2 x).1, hg]; rfl
    rw [atKey_of_not_has hno] at hv
    simp at hv
    rw [hv.1]
/-! results that lie in a cell -/
theorem load_cl {W : World} {b : Nat} {t : TypeId} {c : Cl} {v : V3} (h : Blk W b t (c6 c v)) : (loadVar 54 ⟨b, 0, none⟩).run Tryz.prog W = .ok (av c v) W := by
  have z0 := h.cell 0 rfl
  have z1 := h.cell 1 rfl
  have z2 := h.cell 2 rfl
  have z3 := h.cell 3 rfl
  have z4 := h.cell 4 rfl
  have z5 := h.cell 5 rfl
  simp [go_sem, loadVar, z0, z1, z2, z3, z4, z5, av]
theorem load_ac {W : World} {b : Nat} {t : TypeId} {c : Cl} {v : V3} (h : Blk W b t (c6 c v)) : (loadVar 40 ⟨b, 0, none⟩).run Tryz.prog W = .ok (av c v) W := by
  have z0 := h.cell 0 rfl
  have z1 := h.cell 1 rfl
  have z2 := h.cell 2 rfl
  have z3 := h.cell 3 rfl
  have z4 := h.cell 4 rfl
  have z5 := h.cell 5 rfl
  simp [go_sem, loadVar, z0, z1, z2, z3, z4, z5, av]
theorem ret_cl {fn : Func} {p : Tmp} (hres : fn.results = #[.cell p 54]) {a : Act} (hd : a.defers = []) {W : World} {b : Nat} {t : TypeId} {c : Cl} {v : V3} (hp : a.tmps.getD p undef = .pointer (some ⟨b, 0, none⟩)) (hb : Blk W b t (c6 c v)) {R : Ending → World → Prop}
    (h : R (.returned (av c v)) W) : bodyPost Tryz.prog fn R Exit.ret a W := by
  refine bodyPost_ret (v := av c v) ?_ hd h
  have hp' : a.tmps[p]?.getD undef = .pointer (some ⟨b, 0, none⟩) := by simpa using hp
  simp [results, hres, asAddr, hp', load_cl hb]
theorem ret_cl_tmp {fn : Func} {p u : Tmp} (hres : fn.results = #[.cell p 54, .tmp u]) {a : Act} (hd : a.defers = []) {W : World} {b : Nat} {t : TypeId} {c : Cl} {v : V3} (hp : a.tmps.getD p undef = .pointer (some ⟨b, 0, none⟩)) (hb : Blk W b t (c6 c v)) {R : Ending → World → Prop}
    (h : R (.returned (.tuple #[av c v, a.tmps.getD u undef])) W) : bodyPost Tryz.prog fn R Exit.ret a W := by
  refine bodyPost_ret (v := .tuple #[av c v, a.tmps.getD u undef]) ?_ hd h
  rw [results_cell_tmp hres, hp]
  simp only [asAddr, Sem.run_pure, Result.andThen_ok, load_cl hb]
theorem ret_ac_tmp {fn : Func} {p u : Tmp} (hres : fn.results = #[.cell p 40, .tmp u]) {a : Act} (hd : a.defers = []) {W : World} {b : Nat} {t : TypeId} {c : Cl} {v : V3} (hp : a.tmps.getD p undef = .pointer (some ⟨b, 0, none⟩)) (hb : Blk W b t (c6 c v)) {R : Ending → World → Prop}
    (h : R (.returned (.tuple #[av c v, a.tmps.getD u undef])) W) : bodyPost Tryz.prog fn R Exit.ret a W := by
  refine bodyPost_ret (v := .tuple #[av c v, a.tmps.getD u undef]) ?_ hd h
  rw [results_cell_tmp hres, hp]
  simp only [asAddr, Sem.run_pure, Result.andThen_ok, load_ac hb]
/-- a client laid whole into a block -/
def set6 (W : World) (b : Nat) (c : Cl) (v : V3) : World := (((((W.setCell ⟨b, 0, none⟩ (.string ⟨c.id.toArray⟩)).setCell ⟨b, 1, none⟩ (.string ⟨c.sec.toArray⟩)).setCell ⟨b, 2, none⟩ (.bool c.pub)).setCell ⟨b, 3, none⟩ v.1).setCell ⟨b, 4, none⟩ v.2.1).setCell ⟨b, 5, none⟩ v.2.2
theorem Blk.set6 {W : World} {b : Nat} {t : TypeId} {c x : Cl} {v y : V3} (h : Blk W b t (c6 c v)) : Blk (Ro.set6 W b x y) b t (c6 x y) := by
  have := (((((h.set 0 (.string ⟨x.id.toArray⟩)).set 1 (.string ⟨x.sec.toArray⟩)).set 2 (.bool x.pub)).set 3 y.1).set 4 y.2.1).set 5 y.2.2
  simpa [c6, Ro.set6] using this
theorem below_set6 {W : World} {B b : Nat} {x : Cl} {y : V3} {w0 : World} (h : Below B w0 W) (hb : B ≤ b) : Below B w0 (Ro.set6 W b x y) :=
  (((((h.setCell hb _).setCell hb _).setCell hb _).setCell hb _).setCell hb _).setCell hb _
theorem heap_set6 {W : World} {b k : Nat} {x : Cl} {y : V3} (h : k ≠ b) : (Ro.set6 W b x y).heap[k]? = W.heap[k]? := by
  unfold Ro.set6
  rw [Below.heap_setCell _ _ _ _ h, Below.heap_setCell _ _ _ _ h, Below.heap_setCell _ _ _ _ h, Below.heap_setCell _ _ _ _ h, Below.heap_setCell _ _ _ _ h, Below.heap_setCell _ _ _ _ h]
end Go.Proofs.YtonbpekogfaibaaGreat.Ro
