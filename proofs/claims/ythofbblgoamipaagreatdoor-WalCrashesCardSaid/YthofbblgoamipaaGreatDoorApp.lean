/-
  append(v, x...) onto a row of the call's own, x whatever slice is read: guarded or not.
-/
import Derived.Test.YthofbblgoamipaaGreatDoorGen
import Derived.Maps.AppendAt
import Derived.Deep.Upon
import Derived.OwnWalk
namespace Go.Proofs.YthofbblgoamipaaGreatDoor
open Go.RowKit
section
variable {P : Program}

theorem app_run (w : World) (t ty e : TypeId) (base : Nat) (i : TypeInfo) (z : Value) (size bytes : Nat) (ht : P.underlying t = some (.slice e)) (hi : P.info? e = some i) (hz : i.zero = some z)
    (hsize : i.size = size) (hby : i.bytes = bytes) (hzs : z.cells.size = size) (hsz : 0 < size) (v : Value) (n : Nat) (xs : List Value) (hown : w.ownsRow base e size v n xs)
    (x : Value) (m : Nat) (news : List Value) (hx : Rd w size x m news) (h1 : ∀ u ∈ news, u.oneCell' = true) (h63 : n + m ≤ maxLen) (hbytes : (n + m) * bytes ≤ 140737488355328) (hbase : base ≤ w.heap.size) :
    ∃ v' w', (Builtin.append_ #[t, t] ty #[v, x]).run P w = .ok v' w' ∧ w'.ownsRow base e size v' (n + m) (xs ++ news) ∧ w.grownBy w' v.ownBlock ∧ (v'.ownBlock = v.ownBlock ∨ v'.ownBlock = some w.heap.size) := by
  rcases hx.2 with ⟨⟨a, cap, rfl⟩, rfl⟩ | ⟨b, off, cap, rfl, hc, hcells⟩
  · have hnil : news = [] := List.eq_nil_of_length_eq_zero (by rw [hx.1]; simp)
    subst hnil
    have hsrc : Src P i.size t (.slice a 0 cap) 0 [] w := by
      cases a with
      | none => exact Src.ofNil w ht cap
      | some a => exact Src.ofSlice w ht a 0 cap [] (by simp) (by simp) (by simp)
    have key : ∀ (ao : Option Addr) (l c : Nat), v = .slice ao l c → l ≤ c → ∃ v' w', (Builtin.append_ #[t, t] ty #[v, .slice a 0 cap]).run P w = .ok v' w' ∧ w'.ownsRow base e size v' (n + 0) (xs ++ []) ∧ w.grownBy w' v.ownBlock ∧ (v'.ownBlock = v.ownBlock ∨ v'.ownBlock = some w.heap.size) := by
      intro ao l c hv hle
      subst hv
      exact ⟨_, _, run_append_nothing w t t ty e i ht hi ao l c hle _ hsrc, by simpa using hown, World.grownBy.refl _ _, .inl rfl⟩
    rcases hown.2 with ⟨hv, _⟩ | ⟨g, c, cur, hv, _, _, hle, _⟩
    · exact key _ _ _ hv (Nat.le_refl _)
    · exact key _ _ _ hv hle
  · obtain ⟨v', w', h2, h3, h4, -, h5⟩ := run_append_own_at (P := P) w base t ty e i z size bytes ht hi hz hsize hby hzs hsz v n xs hown ⟨b, off, none⟩ m cap news hx.1 (fun j u hj => by rw [Addr.add_lit]; exact hcells j u hj) h1 h63 hbytes hbase
    exact ⟨v', w', h2, h3, h4, h5⟩

theorem wpList_app {ops : Array Oper} {rest : List Oper} {o : Oper} {a : Act} {w : World} {Q : Exit → Act → World → Prop} (hw : Region.wanted o (yielded ops a.tmps) = true) (s x : Operand) (t : TypeId)
    (ho : o.op = .call { callee := .builtin .append, args := #[s, x], argTypes := #[t, t] })
    (e : TypeId) (base : Nat) (i : TypeInfo) (z : Value) (size bytes : Nat) (ht : P.underlying t = some (.slice e)) (hi : P.info? e = some i) (hz : i.zero = some z)
    (hsize : i.size = size) (hby : i.bytes = bytes) (hzs : z.cells.size = size) (hsz : 0 < size) (v : Value) (n : Nat) (xs : List Value) (hs : a.eval s = v) (hown : w.ownsRow base e size v n xs)
    (xv : Value) (m : Nat) (news : List Value) (hxe : a.eval x = xv) (hx : Rd w size xv m news) (h1 : ∀ u ∈ news, u.oneCell' = true) (h63 : n + m ≤ maxLen) (hbytes : (n + m) * bytes ≤ 140737488355328) (hbase : base ≤ w.heap.size)
    (h : ∀ v' w', w'.ownsRow base e size v' (n + m) (xs ++ news) → w.grownBy w' v.ownBlock → (v'.ownBlock = v.ownBlock ∨ v'.ownBlock = some w.heap.size) → wpList P ops Q rest (a.put o.dst v') w') : wpList P ops Q (o :: rest) a w :=
  wpList_step fun K hK => by
    rw [if_pos hw]
    obtain ⟨v', w', hr, h2, h3, h4⟩ := app_run (P := P) w t o.type e base i z size bytes ht hi hz hsize hby hzs hsz v n xs hown xv m news hx h1 h63 hbytes hbase
    unfold Oper.wp execOp
    simp only [ho, resolve, invoke, builtin, Sem.run_bind, Sem.run_pure, Result.andThen_ok, List.map_toArray, List.map_cons, List.map_nil, hs, hxe, hr]
    exact hK _ _ (h v' w' h2 h3 h4)
end
theorem own_fresh (w : World) (e : TypeId) (size : Nat) : (w.alloc (.cells #[] e)).ownsRow w.heap.size e size (.slice (some ⟨w.heap.size, 0, none⟩) 0 0) 0 [] :=
  ⟨by simp, .inr ⟨w.heap.size, 0, #[], rfl, Nat.le_refl _, heap_alloc_new w _, Nat.le_refl _, by simp [maxLen], by simp, by simp⟩⟩
end Go.Proofs.YthofbblgoamipaaGreatDoor
