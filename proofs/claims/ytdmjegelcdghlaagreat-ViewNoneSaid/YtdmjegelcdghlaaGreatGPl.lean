/-
  Plain lemmas with no program in sight.
  (Texts put together: Pl Gen St Sl App Uo Lift.)
-/
import Derived.WalkKit
import Derived.WalkSpells
import Derived.WalkLawsBesides
import Derived.Lib.Builder
import Derived.Lib.Hide
import Derived.Deep.QuietTactic
import Derived.BigQuiet
import Derived.StillTailTactics
import Derived.Test.YtdmjegelcdghlaaGreatProg
import Derived.Lib.Strings
import Derived.Lib.IndexBytes
import Derived.Maps.AppendAt
import Derived.Deep.Upon
import Derived.OwnWalk
import Derived.OrdersHeld
import Derived.Deep.RegionHeld3
import Derived.Test.YtdmjegelcdghlaaGreatRows
import Derived.ProofKit
import Derived.OpenShut
import Derived.JoinedCond
import Derived.SizedLaws
import Derived.Deep.CondSized
import Derived.Carry
namespace Go.Proofs.YtdmjegelcdghlaaGreat
end Go.Proofs.YtdmjegelcdghlaaGreat
namespace Go.Proofs.YtdmjegelcdghlaaGreat
open Go.RowKit

theorem ret_bool {a b : Bool} (h : a = b) : Ending.returned (.bool a) = .returned (.bool b) := by rw [h]
def Blk (W : World) (b : Nat) (t : TypeId) (cs : List Value) : Prop := W.heap[b]? = some (.cells cs.toArray t (0, 0))
theorem Blk.lt {W : World} {b : Nat} {t : TypeId} {cs : List Value} (h : Blk W b t cs) : b < W.heap.size := (Array.getElem?_eq_some_iff.1 h).1
theorem Blk.cell {W : World} {b : Nat} {t : TypeId} {cs : List Value} (h : Blk W b t cs) (j : Nat) {v : Value} (hj : cs[j]? = some v) : W.cell? ⟨b, j, none⟩ = some v := by
  rw [Lib.cell_of_heap h]; simpa using hj
theorem Blk.frozen {W : World} {b : Nat} {t : TypeId} {cs : List Value} (h : Blk W b t cs) (j : Nat) : W.frozen? ⟨b, j, none⟩ = false := Lib.frozen_of_heap h j
theorem Blk.new (W : World) (t : TypeId) (cs : List Value) : Blk (W.alloc (.cells cs.toArray t)) W.heap.size t cs := heap_alloc_new W _
theorem Blk.alloc {W : World} {b : Nat} {t : TypeId} {cs : List Value} (h : Blk W b t cs) (o : Obj) : Blk (W.alloc o) b t cs := (Lib.alloc_old W o b h.lt).trans h
theorem Blk.drew {W : World} {b : Nat} {t : TypeId} {cs : List Value} (h : Blk W b t cs) : Blk W.drew b t cs := h
theorem Blk.set {W : World} {b : Nat} {t : TypeId} {cs : List Value} (h : Blk W b t cs) (j : Nat) (v : Value) : Blk (W.setCell ⟨b, j, none⟩ v) b t (cs.set j v) := by
  obtain ⟨hlt, hk⟩ := Array.getElem?_eq_some_iff.1 h
  show (W.heap.modify b _)[b]? = _
  rw [Array.getElem?_eq_getElem (by rw [Array.size_modify]; exact hlt), Array.getElem_modify_self, hk]
  simp
theorem Blk.setOther {W : World} {b : Nat} {t : TypeId} {cs : List Value} (h : Blk W b t cs) (p : Addr) (v : Value) (hp : b ≠ p.block) : Blk (W.setCell p v) b t cs := by
  unfold Blk; rw [Below.heap_setCell _ _ _ _ hp]; exact h
theorem Blk.below {W W' : World} {B b : Nat} {t : TypeId} {cs : List Value} (h : Blk W b t cs) (hb : Below B W W') (hlt : b < B) : Blk W' b t cs := (hb.block b hlt).trans h

theorem cells_new (w : World) (vs : List Value) (e : TypeId) : ∀ j u, vs[j]? = some u → (w.alloc (.cells vs.toArray e)).cell? ((⟨w.heap.size, 0, none⟩ : Addr).add j) = some u := by
  intro j u hu
  rw [Addr.add_lit]
  have h : (w.alloc (.cells vs.toArray e)).heap[w.heap.size]? = some (.cells vs.toArray e (0, 0)) := heap_alloc_new w _
  rw [Lib.cell_of_heap h]
  simpa using hu
theorem below_app {B : Nat} {w wr w' : World} {o : Obj} {v : Value} (hb : Below B w wr) (hB : B ≤ wr.heap.size) (hgrow : (wr.alloc o).grownBy w' v.ownBlock) (hlt : ∀ k, v.ownBlock = some k → B ≤ k) : Below B w w' :=
  (hb.alloc hB o).grown hgrow (by simp; omega) hlt
theorem byte_one (l : List UInt8) : ∀ u ∈ Lib.byteCells l, u.oneCell' = true := by
  intro u hu; simp only [Lib.byteCells, List.mem_map] at hu; obtain ⟨x, _, rfl⟩ := hu; rfl
theorem bc_append (a b : List UInt8) : Lib.byteCells (a ++ b) = Lib.byteCells a ++ Lib.byteCells b := by simp [Lib.byteCells]
theorem own_cast {w : World} {B : Nat} {e : TypeId} {sz : Nat} {v : Value} {n m : Nat} {xs ys : List Value} (h : w.ownsRow B e sz v n xs) (hn : n = m) (hx : xs = ys) : w.ownsRow B e sz v m ys := by subst hn; subst hx; exact h
theorem own_mono {w : World} {B B' : Nat} {e : TypeId} {size : Nat} {v : Value} {n : Nat} {xs : List Value} (h : w.ownsRow B e size v n xs) (hB : B' ≤ B) : w.ownsRow B' e size v n xs := by
  refine ⟨h.1, ?_⟩
  rcases h.2 with h2 | ⟨g, cap, cur, hv, hg, r⟩
  · exact .inl h2
  · exact .inr ⟨g, cap, cur, hv, by omega, r⟩
theorem own_below {w w' : World} {B : Nat} {e : TypeId} {size : Nat} {v : Value} {n : Nat} {xs : List Value} (h : w.ownsRow B e size v n xs) (hb : Below w.heap.size w w') : w'.ownsRow B e size v n xs := by
  refine ⟨h.1, ?_⟩
  rcases h.2 with h2 | ⟨g, cap, cur, hv, hg, hh, r⟩
  · exact .inl h2
  · exact .inr ⟨g, cap, cur, hv, hg, (hb.block g (Array.getElem?_eq_some_iff.1 hh).1).trans hh, r⟩
def Rd (W : World) (sz : Nat) (v : Value) (n : Nat) (cs : List Value) : Prop :=
  cs.length = n * sz ∧ (((∃ a cap, v = .slice a 0 cap) ∧ n = 0) ∨ ∃ b off cap, v = .slice (some ⟨b, off, none⟩) n cap ∧ n ≤ cap ∧ ∀ j u, cs[j]? = some u → W.cell? ⟨b, off + j, none⟩ = some u)
theorem Rd.nil (W : World) (sz : Nat) : Rd W sz (.slice none 0 0) 0 [] := ⟨by simp, .inl ⟨⟨_, _, rfl⟩, rfl⟩⟩
theorem Rd.of_own {W : World} {B : Nat} {e : TypeId} {sz : Nat} {v : Value} {n : Nat} {xs : List Value} (h : W.ownsRow B e sz v n xs) : Rd W sz v n xs := by
  refine ⟨h.1, ?_⟩
  rcases h.2 with ⟨h2, h3⟩ | ⟨g, cap, cur, rfl, hg, hh, hn, r⟩
  · exact .inl ⟨⟨_, _, h2⟩, h3⟩
  · refine .inr ⟨g, 0, cap, rfl, hn, fun j u hj => ?_⟩
    have := h.cells (g := g) rfl j u hj
    rw [Addr.add_lit] at this
    exact this
theorem Rd.below {W W' : World} {sz n : Nat} {v : Value} {cs : List Value} (h : Rd W sz v n cs) (hb : Below W.heap.size W W') : Rd W' sz v n cs := by
  refine ⟨h.1, ?_⟩
  rcases h.2 with h2 | ⟨b, off, cap, rfl, hn, hc⟩
  · exact .inl h2
  · refine .inr ⟨b, off, cap, rfl, hn, fun j u hj => ?_⟩
    have h1 := hc j u hj
    have hlt := World.block_lt_of_cell? W _ h1
    rw [hb.cell hlt]; exact h1
theorem Rd.slice {W : World} {sz n : Nat} {v : Value} {cs : List Value} (h : Rd W sz v n cs) : ∃ a cap, v = .slice a n cap := by
  rcases h.2 with ⟨⟨a, cap, rfl⟩, rfl⟩ | ⟨b, off, cap, rfl, _⟩
  · exact ⟨_, _, rfl⟩
  · exact ⟨_, _, rfl⟩
theorem Rd.pos {W : World} {sz n : Nat} {v : Value} {cs : List Value} (h : Rd W sz v n cs) (hn : 0 < n) : ∃ b off cap, v = .slice (some ⟨b, off, none⟩) n cap ∧ n ≤ cap ∧ ∀ j u, cs[j]? = some u → W.cell? ⟨b, off + j, none⟩ = some u := by
  rcases h.2 with ⟨_, rfl⟩ | h2
  · omega
  · exact h2

theorem below_drewN {B : Nat} {a w : World} (h : Below B a w) (n : Nat) : Below B a (w.drewN n) := ⟨h.os, h.tape, h.output, h.size, h.block⟩
theorem Blk.drewN {W : World} {b : Nat} {t : TypeId} {cs : List Value} (h : Blk W b t cs) (n : Nat) : Blk (W.drewN n) b t cs := h
theorem str_ne {a b : List UInt8} (h : (a == b) = false) : ((⟨a.toArray⟩ : ByteArray).toList == (⟨b.toArray⟩ : ByteArray).toList) = false := by
  rw [ByteArray.toList_eq, ByteArray.toList_eq]; exact h
theorem str_eq {a b : List UInt8} (h : (a == b) = true) : ((⟨a.toArray⟩ : ByteArray).toList == (⟨b.toArray⟩ : ByteArray).toList) = true := by
  rw [ByteArray.toList_eq, ByteArray.toList_eq]; exact h
end Go.Proofs.YtdmjegelcdghlaaGreat
namespace Go.Proofs.YtdmjegelcdghlaaGreat
open Go.RowKit

theorem st_ext (a b : ByteArray) (h : a.data.toList = b.data.toList) : a = b := by
  cases a; cases b; congr 1; exact Array.toList_inj.1 h
theorem st_mk (s : ByteArray) : s = ⟨s.data.toList.toArray⟩ := by apply st_ext; simp
theorem st_size (l : List UInt8) : (⟨l.toArray⟩ : ByteArray).size = l.length := by simp [ByteArray.size]
theorem st_add (x y z : List UInt8) (h : x.length + y.length ≤ 9223372036854775807) (hz : z = x ++ y) (w : World) : (Op.stringOp .add ⟨x.toArray⟩ ⟨y.toArray⟩).run Tryz.prog w = .ok (.string ⟨z.toArray⟩) w := by
  subst hz
  rw [run_string_add_sum w _ _ (by simp [ByteArray.size]; omega), ByteArray.mk_append_mk]
theorem ix_str (s : ByteArray) (k : Nat) (h : k < s.size) (c : UInt8) (hc : s[k] = c) (w : World) : (Instr.index 9 (.string s) (.int .i64 (k : Int))).run Tryz.prog w = .ok (.int .u8 (c.toNat : Int)) w := by
  subst hc
  rw [run_index_string w _ s .i64 k Tryz.underlying9]
  simp [h]
theorem str_row : (Tryz.prog.info? 9).map (fun i => (i.zero, i.size, i.bytes)) = some (some (.string ⟨#[]⟩), 1, 16) := by kernel_rfl
end Go.Proofs.YtdmjegelcdghlaaGreat
namespace Go.Proofs.YtdmjegelcdghlaaGreat
open Go.RowKit
section
variable {P : Program}
theorem map_add_zero (a : Option Addr) : a.map (fun x => x.add 0) = a := by
  cases a with
  | none => rfl
  | some a => simp [Addr.add]
theorem sl_front (w : World) (t : TypeId) (a : Option Addr) (n cap k : Nat) (kd : IntKind) (ht : P.underlying t = some (.slice (P.elem t))) {s : Nat} (hs : (sizeOf (P.elem t)).run P w = .ok s w) (h : k ≤ cap) :
    (Instr.slice t (.slice a n cap) none (some (.int kd (k : Int))) none).run P w = .ok (.slice a k cap) w := by
  rw [run_slice_h w t a n cap ht kd k (by omega) (by omega), hs]
  simp only [Result.andThen, sliced, Nat.zero_mul, map_add_zero, ite_self, Int.toNat_natCast, Nat.sub_zero]
theorem sl_back (w : World) (t : TypeId) (a : Option Addr) (n cap k : Nat) (kd : IntKind) (ht : P.underlying t = some (.slice (P.elem t))) {s : Nat} (hs : (sizeOf (P.elem t)).run P w = .ok s w) (h : k ≤ n) :
    (Instr.slice t (.slice a n cap) (some (.int kd (k : Int))) none none).run P w = .ok (.slice (if cap = k then a else a.map (·.add (k * s))) (n - k) (cap - k)) w := by
  rw [run_slice_l w t a n cap ht kd k (by omega) (by omega), hs]
  simp only [Result.andThen, sliced, Int.toNat_natCast]
end
theorem Rd.front {W : World} {a : Option Addr} {n cap sz : Nat} {cs : List Value} (h : Rd W sz (.slice a n cap) n cs) (k : Nat) (hk : k ≤ n) : Rd W sz (.slice a k cap) k (cs.take (k * sz)) := by
  have hl : (cs.take (k * sz)).length = k * sz := by rw [List.length_take, h.1]; exact Nat.min_eq_left (Nat.mul_le_mul_right _ hk)
  refine ⟨hl, ?_⟩
  rcases h.2 with ⟨⟨a', c', e⟩, h0⟩ | ⟨b, off, c', e, hle, hc⟩
  · exact .inl ⟨⟨_, _, by rw [show k = 0 from by omega]⟩, by omega⟩
  · cases e
    refine .inr ⟨b, off, cap, rfl, by omega, fun j u hj => hc j u ?_⟩
    have hlt : j < k * sz := by
      have := (List.getElem?_eq_some_iff.1 hj).1
      rw [hl] at this; exact this
    rw [List.getElem?_take_of_lt hlt] at hj
    exact hj
theorem Rd.back {W : World} {a : Option Addr} {n cap sz : Nat} {cs : List Value} (h : Rd W sz (.slice a n cap) n cs) (k : Nat) (hk : k ≤ n) : Rd W sz (.slice (if cap = k then a else a.map (·.add (k * sz))) (n - k) (cap - k)) (n - k) (cs.drop (k * sz)) := by
  refine ⟨by rw [List.length_drop, h.1, Nat.sub_mul], ?_⟩
  by_cases h0 : n - k = 0
  · exact .inl ⟨⟨_, _, by rw [h0]⟩, h0⟩
  rcases h.2 with ⟨_, h1⟩ | ⟨b, off, c', e, hle, hc⟩
  · omega
  · cases e
    rw [if_neg (by omega)]
    refine .inr ⟨b, off + k * sz, cap - k, ?_, by omega, fun j u hj => ?_⟩
    · simp only [Option.map_some]
      rw [Addr.add_lit]
    · rw [List.getElem?_drop] at hj
      rw [Nat.add_assoc]
      exact hc _ u hj
end Go.Proofs.YtdmjegelcdghlaaGreat
namespace Go.Proofs.YtdmjegelcdghlaaGreat
open Go.RowKit
section
variable {P : Program}

theorem app_run (w : World) (t ty e : TypeId) (base : Nat) (i : TypeInfo) (z : Value) (size bytes : Nat) (ht : P.underlying t = some (.slice e)) (hi : P.info? e = some i) (hz : i.zero = some z)
    (hsize : i.size = size) (hby : i.bytes = bytes) (hzs : z.cells.size = size) (hsz : 0 < size) (v : Value) (n : Nat) (xs : List Value) (hown : w.ownsRow base e size v n xs)
    (x : Value) (m : Nat) (news : List Value) (hx : Rd w size x m news) (h1 : ∀ u ∈ news, u.oneCell' = true) (h63 : n + m ≤ maxLen) (hbytes : (n + m) * bytes ≤ 140737488355328) (hbase : base ≤ w.heap.size) :
    ∃ v' w', (Builtin.append_ #[t, t] ty #[v, x]).run P w = .ok v' w' ∧ w'.ownsRow base e size v' (n + m) (xs ++ news) ∧ w.grownBy w' v.ownBlock ∧ (v'.ownBlock = v.ownBlock ∨ v'.ownBlock = some w.heap.size) := by
  rcases hx.2 with ⟨⟨a, cap, rfl⟩, rfl⟩ | ⟨b, off, cap, rfl, hc, hcells⟩
  · have hnil : news = [] := List.eq_nil_of_length_eq_zero (by rw [hx.1]; simp)
    subst hnil
    have hsrc : Src P i.size t (.slice a 0 cap) 0 [] w := by
      cases a with
      | none => exact Src.ofNil w ht cap
      | some a => exact Src.ofSlice w ht a 0 cap [] (by simp) (by simp) (by simp)
    have key : ∀ (ao : Option Addr) (l c : Nat), v = .slice ao l c → l ≤ c → ∃ v' w', (Builtin.append_ #[t, t] ty #[v, .slice a 0 cap]).run P w = .ok v' w' ∧ w'.ownsRow base e size v' (n + 0) (xs ++ []) ∧ w.grownBy w' v.ownBlock ∧ (v'.ownBlock = v.ownBlock ∨ v'.ownBlock = some w.heap.size) := by
      intro ao l c hv hle
      subst hv
      exact ⟨_, _, run_append_nothing w t t ty e i ht hi ao l c hle _ hsrc, by simpa using hown, World.grownBy.refl _ _, .inl rfl⟩
    rcases hown.2 with ⟨hv, _⟩ | ⟨g, c, cur, hv, _, _, hle, _⟩
    · exact key _ _ _ hv (Nat.le_refl _)
    · exact key _ _ _ hv hle
  · obtain ⟨v', w', h2, h3, h4, -, h5⟩ := run_append_own_at (P := P) w base t ty e i z size bytes ht hi hz hsize hby hzs hsz v n xs hown ⟨b, off, none⟩ m cap news hx.1 (fun j u hj => by rw [Addr.add_lit]; exact hcells j u hj) h1 h63 hbytes hbase
    exact ⟨v', w', h2, h3, h4, h5⟩

theorem wpList_app {ops : Array Oper} {rest : List Oper} {o : Oper} {a : Act} {w : World} {Q : Exit → Act → World → Prop} (hw : Region.wanted o (yielded ops a.tmps) = true) (s x : Operand) (t : TypeId)
    (ho : o.op = .call { callee := .builtin .append, args := #[s, x], argTypes := #[t, t] })
    (e : TypeId) (base : Nat) (i : TypeInfo) (z : Value) (size bytes : Nat) (ht : P.underlying t = some (.slice e)) (hi : P.info? e = some i) (hz : i.zero = some z)
    (hsize : i.size = size) (hby : i.bytes = bytes) (hzs : z.cells.size = size) (hsz : 0 < size) (v : Value) (n : Nat) (xs : List Value) (hs : a.eval s = v) (hown : w.ownsRow base e size v n xs)
    (xv : Value) (m : Nat) (news : List Value) (hxe : a.eval x = xv) (hx : Rd w size xv m news) (h1 : ∀ u ∈ news, u.oneCell' = true) (h63 : n + m ≤ maxLen) (hbytes : (n + m) * bytes ≤ 140737488355328) (hbase : base ≤ w.heap.size)
    (h : ∀ v' w', w'.ownsRow base e size v' (n + m) (xs ++ news) → w.grownBy w' v.ownBlock → (v'.ownBlock = v.ownBlock ∨ v'.ownBlock = some w.heap.size) → wpList P ops Q rest (a.put o.dst v') w') : wpList P ops Q (o :: rest) a w :=
  wpList_step fun K hK => by
    rw [if_pos hw]
    obtain ⟨v', w', hr, h2, h3, h4⟩ := app_run (P := P) w t o.type e base i z size bytes ht hi hz hsize hby hzs hsz v n xs hown xv m news hx h1 h63 hbytes hbase
    unfold Oper.wp execOp
    simp only [ho, resolve, invoke, builtin, Sem.run_bind, Sem.run_pure, Result.andThen_ok, List.map_toArray, List.map_cons, List.map_nil, hs, hxe, hr]
    exact hK _ _ (h v' w' h2 h3 h4)
end
theorem own_fresh (w : World) (e : TypeId) (size : Nat) : (w.alloc (.cells #[] e)).ownsRow w.heap.size e size (.slice (some ⟨w.heap.size, 0, none⟩) 0 0) 0 [] :=
  ⟨by simp, .inr ⟨w.heap.size, 0, #[], rfl, Nat.le_refl _, heap_alloc_new w _, Nat.le_refl _, by simp [maxLen], by simp, by simp⟩⟩
end Go.Proofs.YtdmjegelcdghlaaGreat
namespace Go.Proofs.YtdmjegelcdghlaaGreat
set_option linter.unusedVariables false
section
variable {P : Program} {ops : Array Oper} {Q : Exit → Act → World → Prop} {md : Region.Mode} {S : World → Prop}

def StepU (P : Program) (ops : Array Oper) (S : World → Prop) (o : Oper) (v : Value) (a : Act) : Prop :=
  (Region.wanted o (yielded ops a.tmps) = true ∧ ∀ w, S w → (execOp a.eval o).run P w = .ok (.value v) w) ∨
  (Region.wanted o (yielded ops a.tmps) = false ∧ v = undef) ∨
  (Region.wanted o (yielded ops a.tmps) = true ∧ ∃ f args, (∀ w, S w → (execOp a.eval o).run P w = .ok (.enter f args) w) ∧ ∀ w, S w → Calls P f args w fun e w' => e = .returned v ∧ S w') ∨
  (Region.wanted o (yielded ops a.tmps) = true ∧ ∀ w, S w → ∃ w', (execOp a.eval o).run P w = .ok (.value v) w' ∧ S w')
theorem StepU.of_same {o : Oper} {v : Value} {a a' : Act} (hy : StepU P ops S o v a) (he : execOp a'.eval o = execOp a.eval o)
    (hw : Region.wanted o (yielded ops a'.tmps) = Region.wanted o (yielded ops a.tmps)) : StepU P ops S o v a' := by
  unfold StepU at *
  rw [he, hw]
  exact hy
theorem StepU.wpOp {i : Nat} {o : Oper} {v : Value} {a : Act} (hi : ops[i]? = some o) (hy : StepU P ops S o v a)
    {K : Act → World → Prop} {w : World} (hS : S w) (h : ∀ w', S w' → K (a.put o.dst v) w') : wpOp P ops Q i K a w := by
  unfold Go.wpOp
  simp only [hi]
  rcases hy with ⟨hw, hv⟩ | ⟨hw, rfl⟩ | ⟨hw, f, args, he, hc⟩ | ⟨hw, hv⟩
  · simp only [hw, if_true, Oper.wp, hv w hS, Oper.upon]; exact .inl (h w hS)
  · simp only [hw, Bool.false_eq_true, if_false]; exact h w hS
  · simp only [hw, if_true, Oper.wp, he w hS, Oper.upon]
    refine .inl (Calls.mono (hc w hS) fun e w' ⟨h1, h2⟩ => ?_)
    subst h1
    exact h w' h2
  · obtain ⟨w', hr, hS'⟩ := hv w hS
    simp only [hw, if_true, Oper.wp, hr, Oper.upon]; exact .inl (h w' hS')
def waitsOn (md : Region.Mode) (ops : Array Oper) (i k : Nat) : Bool := match ops[i]? with | some o => o.after.toList.any fun e => Region.binds md e && e.on == k | none => false
theorem waitsOn_spec {i k : Nat} {listed : Array Bool} (h : waitsOn md ops i k = true) (hun : listed.getD k true = false) : i ∉ Region.ready md ops listed := by
  intro hr
  obtain ⟨_, o, ho, hall⟩ := mem_ready.1 hr
  unfold waitsOn at h
  simp only [ho, List.any_eq_true, Bool.and_eq_true, beq_iff_eq] at h
  obtain ⟨e, he, hb, hon⟩ := h
  have h2 := hall e (by simpa using he) hb
  rw [hon] at h2
  rcases Nat.lt_or_ge k listed.size with h' | h'
  · simp [h'] at hun h2; rw [hun] at h2; cases h2
  · simp [Array.getElem?_eq_none h'] at h2
def waitsAll (md : Region.Mode) (ops : Array Oper) (i : Nat) : Bool := (List.range ops.size).all fun k => k == i || (waitsOn md ops i k || waitsOn md ops k i)
theorem waitsAll_spec {i k : Nat} {listed : Array Bool} (h : waitsAll md ops i = true) (hk : k < ops.size) (hne : k ≠ i) (hr : k ∈ Region.ready md ops listed) : i ∉ Region.ready md ops listed := by
  intro hi
  have h1 := List.all_eq_true.1 h k (by simpa using hk)
  simp only [Bool.or_eq_true, beq_iff_eq, hne, false_or] at h1
  rcases h1 with h1 | h1
  · exact waitsOn_spec h1 (mem_ready.1 hr).1 hi
  · exact waitsOn_spec h1 (mem_ready.1 hi).1 hr
def wpU (P : Program) (md : Region.Mode) (ops : Array Oper) (Q : Exit → Act → World → Prop) (S : World → Prop) : Nat → Array Bool → Act → Prop
  | 0, listed, a => Region.ready md ops listed = [] ∧ ∀ w, S w → Q .normal a w
  | fuel + 1, listed, a => (Region.ready md ops listed = [] → ∀ w, S w → Q .normal a w) ∧
     ((∃ i, Region.ready md ops listed = [i] ∧ waitsAll md ops i = true ∧ ∀ w, S w → wpAny P md ops Q (fuel + 1) listed a w) ∨
      ∀ i ∈ Region.ready md ops listed, ∃ o v, ops[i]? = some o ∧ StepU P ops S o v a ∧ wpU P md ops Q S fuel (listed.setIfInBounds i true) (a.put o.dst v))
theorem wpAny_of_U : ∀ (fuel : Nat) (listed : Array Bool) (a : Act), wpU P md ops Q S fuel listed a → ∀ w, S w → wpAny P md ops Q fuel listed a w
  | 0, _, _, h, w, hS => ⟨h.1, h.2 w hS⟩
  | fuel + 1, listed, a, h, w, hS => by
    rcases h.2 with ⟨i, hr, _, hany⟩ | hall
    · exact hany w hS
    · refine ⟨fun h0 => h.1 h0 w hS, fun i hi => ?_⟩
      obtain ⟨o, v, ho, hy, hU⟩ := hall i hi
      exact hy.wpOp ho hS fun w' hS' => wpAny_of_U fuel _ _ hU w' hS'
theorem wpU_first {i : Nat} {oi : Oper} {v : Value} (hi : ops[i]? = some oi) (hsel : ∀ (j : Nat) (o : Oper) cs b, ops[j]? = some o → o.op ≠ .select cs b) :
    ∀ (fuel : Nat) (listed : Array Bool) (a : Act),
      (∀ j oj, ops[j]? = some oj → j ≠ i → listed.getD j true = false → (∀ e ∈ oj.after, Region.binds md e = true → e.on ≠ i) → oi.apart ops oj = true) →
      i ∈ Region.ready md ops listed → StepU P ops S oi v a →
      wpU P md ops Q S fuel (listed.setIfInBounds i true) (a.put oi.dst v) → wpU P md ops Q S (fuel + 1) listed a := by
  intro fuel
  induction fuel with
  | zero =>
    intro listed a _ hr hy H
    refine ⟨fun h => (by rw [h] at hr; cases hr), .inr fun j hj => ?_⟩
    by_cases hji : j = i
    · subst hji; exact ⟨oi, v, hi, hy, H⟩
    · have := ready_mono hj hji
      rw [H.1] at this
      cases this
  | succ fuel ih =>
    intro listed a hfree hr hy H
    refine ⟨fun h => (by rw [h] at hr; cases hr), .inr fun j hj => ?_⟩
    by_cases hji : j = i
    · subst hji; exact ⟨oi, v, hi, hy, H⟩
    · have hj2 := ready_mono hj hji
      rcases H.2 with ⟨i', hr', hwa, _⟩ | hall
      · rw [hr'] at hj2
        obtain rfl : j = i' := by simpa using hj2
        exact absurd hj (waitsAll_spec hwa (Array.getElem?_eq_some_iff.1 hi).1 (Ne.symm hji) hr)
      · obtain ⟨oj, u, hoj, hyj, Hj⟩ := hall j hj2
        obtain ⟨hjun, oj', hoj', hallj⟩ := mem_ready.1 hj
        obtain rfl : oj = oj' := Option.some.inj (hoj.symm.trans hoj')
        have hnot : ∀ e ∈ oj.after, Region.binds md e = true → e.on ≠ i := fun e he hb heq => by
          have h1 := hallj e he hb
          have h0 := (mem_ready.1 hr).1
          rw [heq] at h1
          rcases Nat.lt_or_ge i listed.size with h' | h'
          · simp [h'] at h0 h1; rw [h0] at h1; cases h1
          · simp [Array.getElem?_eq_none h'] at h1
        obtain ⟨h1, h2, h3⟩ := Oper.apart_spec (hfree j oj hoj hji hjun hnot)
        have hsi := fun cs b => hsel i oi cs b hi
        have hsj := fun cs b => hsel j oj cs b hoj
        have hyj' : StepU P ops S oj u a := hyj.of_same (execOp_put oj hsj a oi.dst v h1).symm (wanted_put oj a oi.dst v h1).symm
        have hyi' : StepU P ops S oi v (a.put oj.dst u) := hy.of_same (execOp_put oi hsi a oj.dst u h3) (wanted_put oi a oj.dst u h3)
        refine ⟨oj, u, hoj, hyj', ih (listed.setIfInBounds j true) (a.put oj.dst u) ?_ (ready_mono hr (Ne.symm hji)) hyi' ?_⟩
        · intro k ok hk hki hun hno
          refine hfree k ok hk hki ?_ hno
          by_cases hjk : j = k
          · subst hjk; exact hjun
          · rw [getD_set_ne true hjk] at hun; exact hun
        · rw [Array.setIfInBounds_comm _ _ hji, ← Act.put_comm a v u h2]
          exact Hj
theorem wpU_take {i : Nat} {oi : Oper} {v : Value} {fuel : Nat} {listed : Array Bool} {a : Act} (hi : ops[i]? = some oi)
    (hs : Region.noSelect ops = true) (hf : Region.free md ops listed i = true) (hr : (Region.ready md ops listed).contains i = true) (hy : StepU P ops S oi v a)
    (h : wpU P md ops Q S fuel (listed.setIfInBounds i true) (a.put oi.dst v)) : wpU P md ops Q S (fuel + 1) listed a :=
  wpU_first hi (Region.noSelect_spec hs) fuel listed a (Region.free_spec hi hf) (by simpa using hr) hy h
theorem wpU_done {listed : Array Bool} {a : Act} (hr : Region.ready md ops listed = []) (h : ∀ w, S w → Q .normal a w) : ∀ fuel, wpU P md ops Q S fuel listed a
  | 0 => ⟨hr, h⟩
  | fuel + 1 => ⟨fun _ => h, .inr fun i hi => by rw [hr] at hi; cases hi⟩
theorem wp_region_U {id : Nat} {a : Act} {w : World} (hm : P.follows .mixedOrders = true) (hS : S w.drew) (h : wpU P .any ops Q S ops.size (Array.replicate ops.size false) a) : (Code.region id ops true).wp P Q a w :=
  wp_region_any hm (wpAny_of_U _ _ _ h _ hS)
end
end Go.Proofs.YtdmjegelcdghlaaGreat
namespace Go.Proofs.YtdmjegelcdghlaaGreat
open Go.ChangeShapes Go.WideShapes Go.ChangeAt Go.RowKit

theorem Tryz.own : ownKnob Tryz.prog.godebug = none := by kernel_rfl
theorem Tryz.laidOut : laidOutB Tryz.prog = true := by kernel_rfl

section
variable {H : Type} {enc : TypeId × Value → H} {P : Program}

theorem trodAll_low (hl : laidOutB P = true) {W W' : World} (hb : Below W.heap.size W W') : ∀ (ts : List TypeId) (vs : List Value) (ds : List (DataW H)) (ps : List MemPlace),
    (ts.all fun t => P.readableRec t && decide (t < P.types.size)) = true → DataW.TrodAll enc P W 0 (fun _ => true) true ts vs ds ps → (∀ x ∈ ps, x.block < W.heap.size) →
    DataW.TrodAll enc P W' 0 (fun b => decide (b < W.heap.size)) true ts vs ds ps
  | [], vs, ds, ps, _, h, _ => by
    obtain ⟨rfl, rfl, rfl⟩ := trodAll_nil h
    exact trodAll_mk0
  | t :: ts, vs, ds, ps, ht, h, hlt => by
    simp only [List.all_cons, Bool.and_eq_true, decide_eq_true_eq] at ht
    obtain ⟨v, vs', d, ds', p, q, rfl, rfl, rfl, h1, h2⟩ := trodAll_cons h
    exact trodAll_cons_mk (Below.trod hl ht.1.1 ht.1.2 h1 hb (fun x hx => hlt x (List.mem_append.2 (.inl hx)))) (trodAll_low hl hb ts vs' ds' q (by simpa using ht.2) h2 (fun x hx => hlt x (List.mem_append.2 (.inr hx))))

theorem law_post {f : Func} {s : ChangeSpec} {W W' : World} {args : Array Value} {ds gs : List (DataW H)} {before : List MemPlace} {tb : TypeId}
    (hW : DataW.Whole enc P f.params.toList s.vars false W args.toList ds gs before) (hl : laidOutB P = true) (hvs : s.vars = [])
    (hread : (f.params.toList.all fun t => P.readableRec t && decide (t < P.types.size)) = true) (hrt : f.resultTypes = #[tb]) (htb : P.underlying tb = some .bool)
    (hspec : s.fn H (ds ++ gs) = { results := [.lit (.bool true)], args := ds }) (hb : Below W.heap.size W W') : s.post enc P f false true false false W args (.bool true) W' := by
  have hlt : ∀ p ∈ before, p.block < W.heap.size := fun p hp => hW.lt p hp
  obtain ⟨p, q, hA, hV, hpq, hfz, hnd⟩ := hW
  rw [hvs] at hV
  obtain ⟨rfl, rfl⟩ := trodVars_none hV
  have hp : before = p := by rw [hpq]; simp
  subst hp
  have hA' := trodAll_low hl hb _ _ _ _ hread hA hlt
  have hW' : DataW.Whole enc P f.params.toList s.vars false W args.toList ds [] before := ⟨before, [], hA, by rw [hvs]; exact hV, by simp, hfz, hnd⟩
  refine ⟨ds, [], before, [], before, [], hW', ?_, ?_, ?_, World.keptBut_mono (fun x hx => ⟨hx, .inr (by simpa using hx)⟩) (hb.frame (· ∈ before)), fun h => by cases h⟩
  · rw [hspec, hrt]
    exact trodAll_cons_mk (shut_bool htb true) trodAll_mk0
  · rw [hspec]; exact hA'
  · rw [hspec, hvs]; exact hV
end
end Go.Proofs.YtdmjegelcdghlaaGreat
