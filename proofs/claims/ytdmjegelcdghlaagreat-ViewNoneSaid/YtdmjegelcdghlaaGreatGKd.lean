/-
  Chapter 22: the offers that are there; an offer's last entry.
  (Texts put together: Kd Kb Kc.)
-/
import Derived.Test.YtdmjegelcdghlaaGreatGDt
import Derived.Test.YtdmjegelcdghlaaGreatGQs
import Derived.Test.YtdmjegelcdghlaaGreatGDq
namespace Go.Proofs.YtdmjegelcdghlaaGreat.Vw
open Go.RowKit Go.Maps
set_option linter.unusedVariables false
set_option linter.unusedSimpArgs false
set_option maxRecDepth 100000

theorem OfR.look {i : Nat} {c : Lb} {W : World} {ov : Value} {r : Rp Op} (h : OfR i c W ov r) (k : Nat) (hk : k ≤ 1000000) :
    (r.offs k = none ∧ ∀ W', Below W.heap.size W W' → (Instr.lookup 92 ov (.int .i64 (k : Int)) true).run Tryz.prog W' = .ok (.tuple #[.agg #[.int .i64 0, .int .i64 0, .int .i64 0, .slice none 0 0], .bool false]) W') ∨
      ∃ o ua uc, r.offs k = some o ∧ (∀ W', Below W.heap.size W W' → (Instr.lookup 92 ov (.int .i64 (k : Int)) true).run Tryz.prog W' = .ok (.tuple #[.agg #[.int .i64 (o.nr : Int), .int .i64 (o.ao : Int), .int .i64 (o.cm : Int), .slice ua o.ops.length uc], .bool true]) W') ∧ SlR (opE 1) c 1 W (.slice ua o.ops.length uc) o.ops ∧ o.ops.length ≤ 1048576 := by
  rcases h with ⟨rfl, _, h3⟩ | ⟨m, rfl, _, h3⟩
  · exact .inl ⟨h3 k, fun W' _ => Maps.look_nil true ikey Tryz.underlying92 (of_zero W') (ikeyOf k hk)⟩
  · have hlt := h3.lt
    obtain ⟨D, us, ⟨es, clock, h0, F, hs, hD⟩, h2, h3, h4⟩ := h3.ex
    have hrun : ∀ W', Below W.heap.size W W' → ∃ v, (Instr.lookup 92 (.map (some m)) (.int .i64 (k : Int)) true).run Tryz.prog W' = .ok (.tuple #[v, .bool (has D (.int .i64 (k : Int)))]) W' ∧ heldR v = some (D.atKey (.int .i64 (k : Int)) (.held (.agg #[.int .i64 0, .int .i64 0, .int .i64 0, .slice none 0 0])), []) := fun W' hb => by
      have h1 : W'.ownsMap Tryz.prog 3 heldR m (cntO r.offs r.n) D := ⟨es, clock, (hb.block m hlt).trans h0, F, hs, hD⟩
      obtain ⟨v, ps, hrun, hv⟩ := h1.look_ok ikey Tryz.underlying92 (of_zero W') (zd := .held (.agg #[.int .i64 0, .int .i64 0, .int .i64 0, .slice none 0 0])) (zp := []) rfl (key := .int .i64 (k : Int)) (ikeyOf k hk)
      refine ⟨v, hrun, ?_⟩
      unfold heldR at hv ⊢
      simp at hv ⊢
      exact hv.1
    cases hf : r.offs k with
    | none =>
      have hno := h4 k hf
      refine .inl ⟨rfl, fun W' hb => ?_⟩
      obtain ⟨v, h5, h6⟩ := hrun W' hb
      unfold heldR at h6
      rw [atKey_of_not_has hno] at h6
      simp at h6
      rw [h5, hno, h6]
    | some o =>
      obtain ⟨g1, g2, g3, g4, g5⟩ := h3 k o hf
      obtain ⟨ua, uc, e⟩ := g4.slice
      refine .inr ⟨o, ua, uc, rfl, fun W' hb => ?_, by rw [← e]; exact g4, g5⟩
      obtain ⟨v, h5, h6⟩ := hrun W' hb
      unfold heldR at h6
      rw [g3] at h6
      simp at h6
      rw [h5, g2, h6]
      unfold ofV
      rw [e]
def ofC (o : Of Op) (u : Value) : List Value := [.int .i64 (o.nr : Int), .int .i64 (o.ao : Int), .int .i64 (o.cm : Int), u]
structure OfI (li : Nat) (c : Lb) (W : World) (u : Value) (o : Of Op) : Prop where
  s : SlR (opE li) c li W u o.ops
  n : o.ops.length ≤ 1048576
def ofE (li : Nat) : Ek (Of Op) := ⟨4, 105, ofC, fun c W u o => OfI li c W u o, fun k => k = li⟩
theorem ofE_ok (li : Nat) : (ofE li).Ok := by
  refine ⟨by show 0 < 4; decide, fun _ _ => rfl, fun c W a u h x hx => ?_, fun c c' W W' u a h hc hb => ⟨h.s.keep (opE_ok li) hc fun k hk hl => hb k hk (by rcases hl with hl | hl <;> exact hl), h.n⟩⟩
  obtain ⟨ua, uc, e⟩ := h.s.slice
  subst e
  simp only [ofE, ofC, List.mem_cons, List.not_mem_nil, or_false] at hx
  rcases hx with rfl | rfl | rfl | rfl <;> rfl
def caE : Ek (Of Op) := ⟨2, 124, fun o _ => [.int .i64 (o.nr : Int), .int .i64 (o.last : Int)], fun _ _ _ _ => True, fun _ => False⟩
theorem caE_ok : caE.Ok := by
  refine ⟨by decide, fun _ _ => rfl, fun c W a u h x hx => ?_, fun _ _ _ _ _ _ _ _ _ => trivial⟩
  simp only [caE, List.mem_cons, List.not_mem_nil, or_false] at hx
  rcases hx with rfl | rfl <;> rfl
theorem of_row : (Tryz.prog.info? 105).map (fun i => (i.zero, i.size, i.bytes)) = some (some (.agg #[.int .i64 0, .int .i64 0, .int .i64 0, .slice none 0 0]), 4, 48) := by kernel_rfl
theorem ca_row : (Tryz.prog.info? 124).map (fun i => (i.zero, i.size, i.bytes)) = some (some (.agg #[.int .i64 0, .int .i64 0]), 2, 16) := by kernel_rfl
def cas (l : List (Of Op)) : List Qb.Ca := l.map fun o => ((o.nr : Int), (o.last : Int))
theorem ca_flat : ∀ (l : List (Of Op)) (vs : List Value), vs.length = l.length → flat caE l vs = caCells (cas l)
  | [], [], _ => rfl
  | o :: l, u :: vs, h => by
    have ih := ca_flat l vs (by simpa using h)
    unfold flat at ih ⊢
    rw [List.zipWith_cons_cons, List.flatten_cons, ih]
    rfl
theorem ca_rd {c : Lb} {lo : Nat} {W : World} {v : Value} {l : List (Of Op)} (h : SlR caE c lo W v l) : Rd W 2 v (cas l).length (caCells (cas l)) := by
  obtain ⟨⟨vs, h1, h2⟩, _⟩ := h
  rw [ca_flat l vs h1.1] at h2
  rw [show (cas l).length = l.length from List.length_map _]
  exact h2
theorem bestO_mem : ∀ (l : List (Of Op)) (b : Of Op), bestO l = some b → b ∈ l := by
  intro l
  induction l with
  | nil => intro b h; cases h
  | cons a l ih =>
    intro b h
    unfold bestO at h
    cases hb : bestO l with
    | none =>
      rw [hb] at h
      cases h
      exact List.mem_cons_self
    | some x =>
      rw [hb] at h
      by_cases hx : betterO x a = true
      · simp only [hx, if_true] at h
        cases h
        exact List.mem_cons_of_mem _ (ih _ hb)
      · simp only [hx] at h
        cases h
        exact List.mem_cons_self
theorem bestO_at : ∀ (l : List (Of Op)) (k : Nat) (o : Of Op), l[k]? = some o → (∀ (i : Nat) x, l[i]? = some x → betterO x o = false) → (∀ (i : Nat) x, i < k → l[i]? = some x → betterO o x = true) → bestO l = some o := by
  intro l
  induction l with
  | nil => intro k o h; simp at h
  | cons a l ih =>
    intro k o h h1 h2
    unfold bestO
    cases k with
    | zero =>
      rw [List.getElem?_cons_zero] at h
      cases h
      cases hb : bestO l with
      | none => rfl
      | some b =>
        obtain ⟨i, hi⟩ := List.getElem?_of_mem (bestO_mem l b hb)
        have h3 := h1 (i + 1) b (by rw [List.getElem?_cons_succ]; exact hi)
        simp only [h3]
        rfl
    | succ k =>
      rw [List.getElem?_cons_succ] at h
      rw [ih k o h (fun i x hx => h1 (i + 1) x (by rw [List.getElem?_cons_succ]; exact hx)) fun i x hi hx => h2 (i + 1) x (by omega) (by rw [List.getElem?_cons_succ]; exact hx)]
      have h3 := h2 0 a (by omega) rfl
      simp only [h3, if_true]
theorem cas_at (l : List (Of Op)) (i : Nat) (x : Of Op) (h : l[i]? = some x) : (cas l).getD i (0, 0) = ((x.nr : Int), (x.last : Int)) := by
  unfold cas
  rw [List.getD_eq_getElem?_getD, List.getElem?_map, h]
  rfl
theorem best_cas (l : List (Of Op)) (h : 0 < l.length) : ∃ k o, Qb.best (cas l) l.length = some k ∧ l[k]? = some o ∧ bestO l = some o := by
  cases hb : Qb.best (cas l) l.length with
  | none => have := Qb.best_none _ _ hb; omega
  | some k =>
    have hk := Qb.best_lt _ _ _ hb
    obtain ⟨h1, h2⟩ := Qb.best_is _ _ _ hb
    obtain ⟨o, ho⟩ : ∃ o, l[k]? = some o := ⟨_, List.getElem?_eq_getElem hk⟩
    have e1 := cas_at l k o ho
    refine ⟨k, o, rfl, ho, bestO_at l k o ho (fun i x hx => ?_) fun i x hi hx => ?_⟩
    · have h3 := h1 i (List.getElem?_eq_some_iff.1 hx).1
      rw [e1, cas_at l i x hx] at h3
      unfold Qb.bt at h3
      unfold betterO
      simp only [Bool.or_eq_false_iff, Bool.and_eq_false_iff, decide_eq_false_iff_not]
      simp only at h3
      omega
    · have h3 := h2 i hi
      rw [e1, cas_at l i x hx] at h3
      unfold Qb.bt at h3
      unfold betterO
      simp only [Bool.or_eq_true, Bool.and_eq_true, decide_eq_true_eq]
      simp only at h3
      omega
set_option maxHeartbeats 4000000 in
theorem last_any (o : Of Op) (ua : Option Addr) (uc : Nat) (w : World) (ha : o.ao ≤ 4 * TM) (hl : o.ops.length ≤ 1048576) :
    Calls Tryz.prog 89 #[.agg #[.int .i64 (o.nr : Int), .int .i64 (o.ao : Int), .int .i64 (o.cm : Int), .slice ua o.ops.length uc]] w fun e w' => e = .returned (.int .i64 (o.last : Int)) ∧ Below w.heap.size w w' := by
  have hTM : TM = 1099511627776 := rfl
  obtain ⟨L, hL⟩ : ∃ L, L = o.last := ⟨_, rfl⟩
  have hw : IntKind.i64.wrap ((o.ao : Int) + (o.ops.length : Int)) = (L : Int) := by rw [IntWalk.i64_in _ (by omega), hL]; rfl
  rw [← hL]
  clear hL hTM
  go_enter Tryz.func89, Tryz.ntmps89
  go_wp2_with fail
  go_ret
  exact ⟨rfl, (Below.refl _ _).alloc (Nat.le_refl _) _⟩
end Go.Proofs.YtdmjegelcdghlaaGreat.Vw
namespace Go.Proofs.YtdmjegelcdghlaaGreat.Vw
set_option linter.unusedVariables false
set_option linter.unusedSimpArgs false

structure Mz where
  kd : Int
  fr : Int
  vw : Int
  nr : Int
  ao : Int
  ops : List Op
  cm : Int
  sb : Int
  ls : Int
def bareZ (m : Mz) : Bool := decide (m.ao = 0) && decide ((m.ops.length : Int) = 0) && decide (m.cm = 0)
def mayZ (r : Rp Op) (m : Mz) : Bool :=
  decide (0 ≤ m.fr) && decide (m.fr < r.n) && decide (m.fr ≠ r.id) && decide (0 ≤ m.vw) && decide (m.vw ≤ 1099511627776) && m.ops.all mayO &&
  decide (0 ≤ m.ao) && decide (m.ao ≤ 1099511627776) && decide (0 ≤ m.cm) && decide (m.cm ≤ m.ao + m.ops.length) &&
  decide (m.kd = 1 ∨ m.sb = 0) && decide (m.kd = 2 ∨ m.ls = 0) && decide (m.kd = 4 ∨ m.nr = 0) &&
  (if m.kd = 1 then decide (m.fr = m.vw % r.n) && decide (0 ≤ m.sb) && decide (m.sb ≤ m.cm)
   else if m.kd = 2 then bareZ m && decide (0 ≤ m.ls) && decide (m.ls ≤ 1099511627776)
   else if m.kd = 4 then decide ((r.id : Int) = m.vw % r.n) && decide (0 ≤ m.nr) && decide (m.nr ≤ m.vw) && decide (m.ao ≤ m.cm)
   else if m.kd = 5 then decide (m.fr = m.vw % r.n) && decide (m.ao ≤ m.cm)
   else if m.kd = 3 ∨ m.kd = 6 then bareZ m
   else false)
theorem mayZ_no {r : Rp Op} {m : Mz} (h : m.fr < 0 ∨ (r.n : Int) ≤ m.fr ∨ m.fr = r.id ∨ m.vw < 0 ∨ 1099511627776 < m.vw ∨ m.ops.all mayO = false ∨ m.ao < 0 ∨ 1099511627776 < m.ao ∨ m.cm < 0 ∨ m.ao + m.ops.length < m.cm ∨ (m.kd ≠ 1 ∧ m.sb ≠ 0) ∨ (m.kd ≠ 2 ∧ m.ls ≠ 0) ∨ (m.kd ≠ 4 ∧ m.nr ≠ 0)) : mayZ r m = false := by
  unfold mayZ
  rcases h with h | h | h | h | h | h | h | h | h | h | h | h | h
  · rw [decide_eq_false (show ¬ 0 ≤ m.fr by omega)]; simp
  · rw [decide_eq_false (show ¬ m.fr < (r.n : Int) by omega)]; simp
  · rw [decide_eq_false (show ¬ m.fr ≠ (r.id : Int) from fun g => g h)]; simp
  · rw [decide_eq_false (show ¬ 0 ≤ m.vw by omega)]; simp
  · rw [decide_eq_false (show ¬ m.vw ≤ 1099511627776 by omega)]; simp
  · rw [h]; simp
  · rw [decide_eq_false (show ¬ 0 ≤ m.ao by omega)]; simp
  · rw [decide_eq_false (show ¬ m.ao ≤ 1099511627776 by omega)]; simp
  · rw [decide_eq_false (show ¬ 0 ≤ m.cm by omega)]; simp
  · rw [decide_eq_false (show ¬ m.cm ≤ m.ao + m.ops.length by omega)]; simp
  · rw [decide_eq_false (show ¬ (m.kd = 1 ∨ m.sb = 0) by omega)]; simp
  · rw [decide_eq_false (show ¬ (m.kd = 2 ∨ m.ls = 0) by omega)]; simp
  · rw [decide_eq_false (show ¬ (m.kd = 4 ∨ m.nr = 0) by omega)]; simp
def tailZ (r : Rp Op) (m : Mz) : Bool :=
  if m.kd = 1 then decide (m.fr = m.vw % r.n) && decide (0 ≤ m.sb) && decide (m.sb ≤ m.cm)
   else if m.kd = 2 then bareZ m && decide (0 ≤ m.ls) && decide (m.ls ≤ 1099511627776)
   else if m.kd = 4 then decide ((r.id : Int) = m.vw % r.n) && decide (0 ≤ m.nr) && decide (m.nr ≤ m.vw) && decide (m.ao ≤ m.cm)
   else if m.kd = 5 then decide (m.fr = m.vw % r.n) && decide (m.ao ≤ m.cm)
   else if m.kd = 3 ∨ m.kd = 6 then bareZ m
   else false
theorem mayZ_yes {r : Rp Op} {m : Mz} (h0 : 0 ≤ m.fr) (h1 : m.fr < r.n) (h2 : m.fr ≠ r.id) (h3 : 0 ≤ m.vw) (h4 : m.vw ≤ 1099511627776) (h5 : m.ops.all mayO = true) (h6 : 0 ≤ m.ao) (h7 : m.ao ≤ 1099511627776) (h8 : 0 ≤ m.cm) (h9 : m.cm ≤ m.ao + m.ops.length) (ha : m.kd = 1 ∨ m.sb = 0) (hb : m.kd = 2 ∨ m.ls = 0) (hc : m.kd = 4 ∨ m.nr = 0) : mayZ r m = tailZ r m := by
  unfold mayZ tailZ
  rw [decide_eq_true h0, decide_eq_true h1, decide_eq_true h2, decide_eq_true h3, decide_eq_true h4, h5, decide_eq_true h6, decide_eq_true h7, decide_eq_true h8, decide_eq_true h9, decide_eq_true ha, decide_eq_true hb, decide_eq_true hc]
  simp only [Bool.true_and]
def Ms.z (m : Ms Op) : Mz := ⟨m.kd, m.fr, m.vw, m.nr, m.ao, m.ops, m.cm, m.sb, m.ls⟩
end Go.Proofs.YtdmjegelcdghlaaGreat.Vw
namespace Go.Proofs.YtdmjegelcdghlaaGreat.Vw
set_option linter.unusedVariables false
set_option linter.unusedSimpArgs false

theorem mayZ_ms {r : Rp Op} {m : Mz} (h : mayZ r m = true) : ∃ q : Ms Op, m = q.z := by
  unfold mayZ at h
  simp only [Bool.and_eq_true, decide_eq_true_eq] at h
  obtain ⟨⟨⟨⟨⟨⟨⟨⟨⟨⟨⟨⟨⟨h0, h1⟩, h2⟩, h3⟩, h4⟩, h5⟩, h6⟩, h7⟩, h8⟩, h9⟩, ha⟩, hb⟩, hc⟩, ht⟩ := h
  have hx : 0 ≤ m.kd ∧ 0 ≤ m.nr ∧ 0 ≤ m.sb ∧ 0 ≤ m.ls := by
    by_cases k1 : m.kd = 1
    · rw [if_pos k1] at ht
      simp only [Bool.and_eq_true, decide_eq_true_eq] at ht
      omega
    rw [if_neg k1] at ht
    by_cases k2 : m.kd = 2
    · rw [if_pos k2] at ht
      simp only [Bool.and_eq_true, decide_eq_true_eq] at ht
      omega
    rw [if_neg k2] at ht
    by_cases k4 : m.kd = 4
    · rw [if_pos k4] at ht
      simp only [Bool.and_eq_true, decide_eq_true_eq] at ht
      omega
    rw [if_neg k4] at ht
    by_cases k5 : m.kd = 5
    · omega
    rw [if_neg k5] at ht
    by_cases k6 : m.kd = 3 ∨ m.kd = 6
    · omega
    rw [if_neg k6] at ht
    cases ht
  refine ⟨⟨m.kd.toNat, m.fr.toNat, m.vw.toNat, m.nr.toNat, m.ao.toNat, m.ops, m.cm.toNat, m.sb.toNat, m.ls.toNat⟩, ?_⟩
  cases m
  simp only [Ms.z, Mz.mk.injEq, true_and]
  simp only at h0 h3 h6 h8 hx
  omega
theorem mod_cast' (a b : Nat) : ((a : Int) % (b : Int)) = ((a % b : Nat) : Int) := by omega
theorem mayZ_z' (r : Rp Op) (kd fr vw nr ao cm sb ls : Nat) (ops : List Op) : mayZ r ⟨kd, fr, vw, nr, ao, ops, cm, sb, ls⟩ = mayM mayO r ⟨kd, fr, vw, nr, ao, ops, cm, sb, ls⟩ := by
  have e : ∀ a b : Bool, (a = true ↔ b = true) → a = b := fun a b h => by cases a <;> cases b <;> simp_all
  have hTM : TM = 1099511627776 := rfl
  refine e _ _ ?_
  have hem : ops.isEmpty = decide (ops.length = 0) := by cases ops <;> simp
  unfold mayZ mayM bareZ bare
  simp only [Bool.and_eq_true, Bool.or_eq_true, decide_eq_true_eq, mod_cast', hem]
  have k1 : ((kd : Int) = 1) ↔ kd = 1 := by omega
  have k2 : ((kd : Int) = 2) ↔ kd = 2 := by omega
  have k3 : ((kd : Int) = 3) ↔ kd = 3 := by omega
  have k4 : ((kd : Int) = 4) ↔ kd = 4 := by omega
  have k5 : ((kd : Int) = 5) ↔ kd = 5 := by omega
  have k6 : ((kd : Int) = 6) ↔ kd = 6 := by omega
  simp only [k1, k2, k3, k4, k5, k6]
  generalize vw % r.n = pm
  rw [hTM]
  cases ops.all mayO
  · simp
  simp only [and_true, true_and]
  split
  · simp only [Bool.and_eq_true, decide_eq_true_eq]; constructor <;> (intro h; omega)
  split
  · simp only [Bool.and_eq_true, decide_eq_true_eq]; constructor <;> (intro h; omega)
  split
  · simp only [Bool.and_eq_true, decide_eq_true_eq]; constructor <;> (intro h; omega)
  split
  · simp only [Bool.and_eq_true, decide_eq_true_eq]; constructor <;> (intro h; omega)
  split
  · simp only [Bool.and_eq_true, decide_eq_true_eq]; constructor <;> (intro h; omega)
  simp
theorem mayZ_z (r : Rp Op) (q : Ms Op) : mayZ r q.z = mayM mayO r q := mayZ_z' r q.kd q.fr q.vw q.nr q.ao q.cm q.sb q.ls q.ops
end Go.Proofs.YtdmjegelcdghlaaGreat.Vw
