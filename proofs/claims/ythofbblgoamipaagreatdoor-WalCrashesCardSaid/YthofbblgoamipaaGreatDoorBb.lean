/-
  append onto a row of one's own, or onto a beginning of one whose capacity was cut to its length (f[:n:n]).
-/
import Derived.Test.YthofbblgoamipaaGreatDoorApp
namespace Go.Proofs.YthofbblgoamipaaGreatDoor
open Go.RowKit
set_option linter.unusedVariables false
section
variable {P : Program}
/-- a row of one cell an element: one's own, or a beginning with nothing behind it -/
def FRow (w : World) (e : TypeId) (v : Value) (n : Nat) (xs : List Value) : Prop :=
  w.ownsRow 0 e 1 v n xs ∨ ∃ g, v = .slice (some ⟨g, 0, none⟩) n n ∧ g < w.heap.size ∧ xs.length = n ∧ ∀ j u, xs[j]? = some u → w.cell? ⟨g, j, none⟩ = some u
theorem FRow.rd {w : World} {e : TypeId} {v : Value} {n : Nat} {xs : List Value} (h : FRow w e v n xs) : Rd w 1 v n xs := by
  rcases h with h | ⟨g, rfl, hg, hl, hc⟩
  · exact Rd.of_own h
  · exact ⟨by rw [hl, Nat.mul_one], .inr ⟨g, 0, n, rfl, Nat.le_refl _, fun j u hj => by rw [Nat.zero_add]; exact hc j u hj⟩⟩
theorem FRow.lt {w : World} {e : TypeId} {v : Value} {n : Nat} {xs : List Value} (h : FRow w e v n xs) (g : Nat) (hg : v.ownBlock = some g) : g < w.heap.size := by
  rcases h with h | ⟨g', rfl, hg', _⟩
  · exact (h.lt g hg).2
  · cases hg; exact hg'
/-- the block that it lies in is as it was -/
theorem FRow.keep {w w' : World} {e : TypeId} {v : Value} {n : Nat} {xs : List Value} (h : FRow w e v n xs) (hb : ∀ g, v.ownBlock = some g → w'.heap[g]? = w.heap[g]?) : FRow w' e v n xs := by
  rcases h with h | ⟨g, rfl, hg, hl, hc⟩
  · refine .inl ⟨h.1, ?_⟩
    rcases h.2 with h2 | ⟨g, cap, cur, hv, hB, hh, r⟩
    · exact .inl h2
    · exact .inr ⟨g, cap, cur, hv, hB, by rw [hb g (by rw [hv]; rfl)]; exact hh, r⟩
  · have hh := hb g rfl
    have hg' : g < w'.heap.size := (Array.getElem?_eq_some_iff.1 (hh.trans (Array.getElem?_eq_getElem hg))).1
    exact .inr ⟨g, rfl, hg', hl, fun j u hj => (World.cell?_of_block (a := ⟨g, j, none⟩) hh).trans (hc j u hj)⟩
/-- its first k elements, nothing behind them -/
theorem FRow.cut {w : World} {e : TypeId} {a : Option Addr} {n c : Nat} {xs : List Value} (h : FRow w e (.slice a n c) n xs) (k : Nat) (h0 : 0 < k) (hk : k ≤ n) : FRow w e (.slice a k k) k (xs.take k) ∧ k ≤ c := by
  obtain ⟨g, o, cap, e1, hcp, hc⟩ := h.rd.pos (by omega)
  have hl := h.rd.1
  rw [Nat.mul_one] at hl
  have ho : o = 0 := by
    rcases h with h | ⟨g', e2, _⟩
    · rcases h.2 with ⟨e2, _⟩ | ⟨g', cap', cur, e2, _⟩
      · rw [e2] at e1; cases e1
      · rw [e2] at e1; cases e1; rfl
    · rw [e2] at e1; cases e1; rfl
  subst ho
  have hlt := h.lt g (by rw [e1]; rfl)
  cases e1
  refine ⟨.inr ⟨g, rfl, hlt, by rw [List.length_take]; omega, fun j u hj => ?_⟩, by omega⟩
  rw [List.getElem?_take] at hj
  split at hj
  · have := hc j u hj
    rwa [Nat.zero_add] at this
  · cases hj
theorem frow_run (w : World) (t ty e : TypeId) (i : TypeInfo) (z : Value) (bytes : Nat) (ht : P.underlying t = some (.slice e)) (hi : P.info? e = some i) (hz : i.zero = some z)
    (hsize : i.size = 1) (hby : i.bytes = bytes) (hzs : z.cells.size = 1) (v : Value) (n : Nat) (xs : List Value) (hown : FRow w e v n xs)
    (x : Value) (m : Nat) (news : List Value) (hx : Rd w 1 x m news) (h1 : ∀ u ∈ news, u.oneCell' = true) (h63 : n + m ≤ maxLen) (hbytes : (n + m) * bytes ≤ 140737488355328) :
    ∃ v' w', (Builtin.append_ #[t, t] ty #[v, x]).run P w = .ok v' w' ∧ FRow w' e v' (n + m) (xs ++ news) ∧ w.grownBy w' v.ownBlock ∧ (v'.ownBlock = v.ownBlock ∨ v'.ownBlock = some w.heap.size) := by
  rcases hown with h | ⟨g, rfl, hg, hl, hc⟩
  · obtain ⟨v', w', h1, h2, h3⟩ := app_run w t ty e 0 i z 1 bytes ht hi hz hsize hby hzs (by decide) v n xs h x m news hx h1 h63 hbytes (Nat.zero_le _)
    exact ⟨v', w', h1, .inl h2, h3⟩
  · rcases hx.2 with ⟨⟨a, cap, rfl⟩, rfl⟩ | ⟨b, off, cap, rfl, hcp, hcells⟩
    · have hnil : news = [] := List.eq_nil_of_length_eq_zero (by rw [hx.1])
      subst hnil
      have hsrc : Src P i.size t (.slice a 0 cap) 0 [] w := by
        cases a with
        | none => exact Src.ofNil w ht cap
        | some a => exact Src.ofSlice w ht a 0 cap [] (by simp) (by simp) (by simp)
      refine ⟨_, _, run_append_nothing w t t ty e i ht hi _ n n (Nat.le_refl _) _ hsrc, .inr ⟨g, rfl, hg, by simpa using hl, by simpa using hc⟩, World.grownBy.refl _ _, .inl rfl⟩
    · have hm := hx.1
      rw [Nat.mul_one] at hm
      by_cases h0 : m = 0
      · subst h0
        obtain rfl : news = [] := List.eq_nil_of_length_eq_zero hm
        have hsrc : Src P i.size t (.slice (some ⟨b, off, none⟩) 0 cap) 0 [] w := Src.ofSlice w ht _ 0 cap [] (by simp) (by simp) (by simp)
        exact ⟨_, _, run_append_nothing w t t ty e i ht hi _ n n (Nat.le_refl _) _ hsrc, .inr ⟨g, rfl, hg, by simpa using hl, by simpa using hc⟩, World.grownBy.refl _ _, .inl rfl⟩
      · have hr := run_append_grow (P := P) w t ty e i z ht hi hz ⟨g, 0, none⟩ n n xs (by rw [hsize, hl, Nat.mul_one]) (fun j u hj => by rw [Addr.add_lit, Nat.zero_add]; exact hc j u hj) ⟨b, off, none⟩ m cap news (by rw [hsize, hm, Nat.mul_one]) (fun j u hj => by rw [Addr.add_lit]; exact hcells j u hj)
          (by omega) (by simp only [maxLen] at h63; omega) (by rw [hby]; exact growslice_fits (by omega) hbytes)
        have hlen : (xs ++ news).length = n + m := by rw [List.length_append, hl, hm]
        refine ⟨_, _, hr, .inl ⟨by rw [hlen, Nat.mul_one], .inr ⟨w.heap.size, _, _, rfl, Nat.zero_le _, heap_alloc_new w.drew _, grownCap_ge w (n + m) n e, grownCap_le_maxLen w (n + m) n e h63, ?_, ?_⟩⟩, ⟨rfl, rfl, rfl, by simp, fun k hk _ => heap_alloc_old w.drew _ hk⟩, .inr rfl⟩
        · have := grownCap_ge w (n + m) n e
          simp only [Array.size_append, List.size_toArray, size_zeroCells, hzs, hl, hm]
          omega
        · simp only [Array.toList_append, List.append_assoc]
          rw [← List.append_assoc, Nat.mul_one, ← hlen]
          exact List.take_left
theorem wpList_frow {ops : Array Oper} {rest : List Oper} {o : Oper} {a : Act} {w : World} {Q : Exit → Act → World → Prop} (hw : Region.wanted o (yielded ops a.tmps) = true) (s x : Operand) (t : TypeId)
    (ho : o.op = .call { callee := .builtin .append, args := #[s, x], argTypes := #[t, t] })
    (e : TypeId) (i : TypeInfo) (z : Value) (bytes : Nat) (ht : P.underlying t = some (.slice e)) (hi : P.info? e = some i) (hz : i.zero = some z)
    (hsize : i.size = 1) (hby : i.bytes = bytes) (hzs : z.cells.size = 1) (v : Value) (n : Nat) (xs : List Value) (hs : a.eval s = v) (hown : FRow w e v n xs)
    (xv : Value) (m : Nat) (news : List Value) (hxe : a.eval x = xv) (hx : Rd w 1 xv m news) (h1 : ∀ u ∈ news, u.oneCell' = true) (h63 : n + m ≤ maxLen) (hbytes : (n + m) * bytes ≤ 140737488355328)
    (h : ∀ v' w', FRow w' e v' (n + m) (xs ++ news) → w.grownBy w' v.ownBlock → (v'.ownBlock = v.ownBlock ∨ v'.ownBlock = some w.heap.size) → wpList P ops Q rest (a.put o.dst v') w') : wpList P ops Q (o :: rest) a w :=
  wpList_step fun K hK => by
    rw [if_pos hw]
    obtain ⟨v', w', hr, h2, h3, h4⟩ := frow_run (P := P) w t o.type e i z bytes ht hi hz hsize hby hzs v n xs hown xv m news hx h1 h63 hbytes
    unfold Oper.wp execOp
    simp only [ho, resolve, invoke, builtin, Sem.run_bind, Sem.run_pure, Result.andThen_ok, List.map_toArray, List.map_cons, List.map_nil, hs, hxe, hr]
    exact hK _ _ (h v' w' h2 h3 h4)
end
end Go.Proofs.YthofbblgoamipaaGreatDoor
