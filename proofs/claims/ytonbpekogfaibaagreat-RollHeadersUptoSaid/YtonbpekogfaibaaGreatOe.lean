/-
  Chapter 15: Clone of texts; own. Printed by gen_roll_own.py.
-/
import Derived.Test.YtonbpekogfaibaaGreatOd
import Derived.Test.YtonbpekogfaibaaGreatUw
namespace Go.Proofs.YtonbpekogfaibaaGreat.Ro
open Go.RowKit Go.Maps Go.Sort
set_option linter.unusedVariables false
set_option linter.unusedSimpArgs false
set_option maxRecDepth 100000

theorem str_row : (Tryz.prog.info? 9).map (fun i => (i.zero, i.size, i.bytes)) = some (some (.string ⟨#[]⟩), 1, 16) := by kernel_rfl
theorem exec_append {P : Program} {o : Oper} {a : Act} (s x : Operand) (t : TypeId) (ho : o.op = .call { callee := .builtin .append, args := #[s, x], argTypes := #[t, t] }) {S X v' : Value} {w w' : World} (hs : a.eval s = S) (hx : a.eval x = X)
    (hr : (Builtin.append_ #[t, t] o.type #[S, X]).run P w = .ok v' w') : (execOp a.eval o).run P w = .ok (.value v') w' := by
  simp only [execOp, ho, resolve, invoke, builtin, Sem.run_bind, Sem.run_pure, Result.andThen_ok, List.map_toArray, List.map_cons, List.map_nil, hs, hx, hr]
theorem wpList_exec {P : Program} {ops : Array Oper} {rest : List Oper} {o : Oper} {a : Act} {w w' : World} {v : Value} {Q : Exit → Act → World → Prop} (hw : Region.wanted o (yielded ops a.tmps) = true)
    (hr : (execOp a.eval o).run P w = .ok (.value v) w') (h : wpList P ops Q rest (a.put o.dst v) w') : wpList P ops Q (o :: rest) a w :=
  wpList_step fun K hK => by
    rw [if_pos hw]
    unfold Oper.wp
    simp only [hr]
    exact hK _ _ h
set_option maxHeartbeats 2000000 in
/-- Clone, what it leaves named ahead -/
theorem clone_exact (l : List By) (v : Value) (w : World) (h : RdS w v l) (hl : l.length ≤ 1048576) :
    ∃ v' w', (Calls Tryz.prog 43 #[v] w fun e w'' => e = .returned v' ∧ w'' = w') ∧ OwnS w' w.heap.size v' l ∧ Below w.heap.size w w' := by
  obtain ⟨a, c, rfl⟩ := h.1.slice
  rcases a with _ | ad
  · have hb : l = [] := by
      rcases Nat.eq_zero_or_pos l.length with h0 | h0
      · exact List.eq_nil_of_length_eq_zero h0
      · obtain ⟨_, _, _, e, _⟩ := h.1.pos h0; cases e
    subst hb
    refine ⟨.slice none 0 0, w, ?_, World.ownsRow_nil _ _ _ _, Below.refl _ _⟩
    clear h
    have hq : ∀ W, (binOp .eql 38 (.slice none 0 c) (.slice none 0 0)).run Tryz.prog W = .ok (.bool true) W := fun W => by kernel_rfl
    go_enter Tryz.func43, Tryz.ntmps43
    go_wp2
    go_ret
    exact ⟨rfl, rfl⟩
  · obtain ⟨i0, hi, hz0, hz1, hz2⟩ := info_parts str_row
    have hb0 : Below w.heap.size w (w.alloc (.cells #[] 9)) := (Below.refl w.heap.size w).alloc (Nat.le_refl _) _
    obtain ⟨v', w', hrun, ho, hg, _⟩ := app_run (P := Tryz.prog) (w.alloc (.cells #[] 9)) 38 38 9 w.heap.size i0 (.string ⟨#[]⟩) 1 16 Tryz.underlying38 hi hz0 hz1 hz2 rfl (by decide) (.slice (some ⟨w.heap.size, 0, none⟩) 0 0) 0 [] (own_fresh w 9 1) (.slice (some ad) l.length c) l.length (l.map sv) (h.1.below hb0) (sv_one l) (by unfold maxLen; omega) (by omega) (by simp)
    have hb := below_app (Below.refl w.heap.size w) (Nat.le_refl _) hg (fun k e => by cases e; exact Nat.le_refl _)
    rw [Nat.zero_add, List.nil_append] at ho
    refine ⟨v', w', ?_, ho, hb⟩
    have HRUN := Lib.hid hrun
    clear h hrun ho hg hb hb0 hi hz0 hz1 hz2
    have hq : ∀ W, (binOp .eql 38 (.slice (some ad) l.length c) (.slice none 0 0)).run Tryz.prog W = .ok (.bool false) W := fun W => by kernel_rfl
    go_enter Tryz.func43, Tryz.ntmps43
    go_wp2_with (at_builtin; go_loud (refine wpList_exec rfl (exec_append (.tmp 5) (.tmp 6) 38 rfl rfl rfl HRUN.out) ?_))
    go_wp2_with fail
    go_ret
    exact ⟨rfl, rfl⟩
theorem clone_any (l : List By) (v : Value) (w : World) (h : RdS w v l) (hl : l.length ≤ 1048576) :
    Calls Tryz.prog 43 #[v] w fun e w' => ∃ v', e = .returned v' ∧ OwnS w' w.heap.size v' l ∧ Below w.heap.size w w' := by
  obtain ⟨v', w', hc, h1, h2⟩ := clone_exact l v w h hl
  exact hc.mono (fun e W ⟨he, hW⟩ => by subst hW; exact ⟨v', he, h1, h2⟩)
theorem own_keepB {w W' : World} {B n sz : Nat} {e : TypeId} {v : Value} {xs : List Value} (h : w.ownsRow B e sz v n xs) (hb : ∀ g, v.ownBlock = some g → W'.heap[g]? = w.heap[g]?) : W'.ownsRow B e sz v n xs := by
  refine ⟨h.1, ?_⟩
  rcases h.2 with h2 | ⟨g, cap, cur, hv, hB, hh, r⟩
  · exact .inl h2
  · exact .inr ⟨g, cap, cur, hv, hB, (hb g (by rw [hv]; rfl)).trans hh, r⟩
theorem OwnS.low {W W' : World} {B : Nat} {v : Value} {l : List By} (h : OwnS W B v l) (hb : Below W.heap.size W W') : OwnS W' B v l := own_keepB h (fun g hg => hb.block g (World.ownsRow.lt h g hg).2)
/-- lists that lie in blocks of their own, none below B, each other's not -/
structure OwC (W : World) (B : Nat) (c : Cl) (v : V3) : Prop where
  r : OwnS W B v.1 c.red
  s : OwnS W B v.2.1 c.sco
  g : OwnS W B v.2.2 c.gra
  rs : ∀ k, v.1.ownBlock = some k → v.2.1.ownBlock ≠ some k
  rg : ∀ k, v.1.ownBlock = some k → v.2.2.ownBlock ≠ some k
  sg : ∀ k, v.2.1.ownBlock = some k → v.2.2.ownBlock ≠ some k
set_option maxHeartbeats 4000000 in
theorem own_any (c : Cl) (v0 v1 v2 : Value) (w : World) (h : RdC w c (v0, v1, v2)) (h1 : c.red.length ≤ 1048576) (h2 : c.sco.length ≤ 1048576) (h3 : c.gra.length ≤ 1048576) :
    Calls Tryz.prog 18 #[.agg #[.string ⟨c.id.toArray⟩, .string ⟨c.sec.toArray⟩, .bool c.pub, v0, v1, v2]] w fun e w' => ∃ u0 u1 u2, e = .returned (.agg #[.string ⟨c.id.toArray⟩, .string ⟨c.sec.toArray⟩, .bool c.pub, u0, u1, u2]) ∧ OwC w' w.heap.size c (u0, u1, u2) ∧ Below w.heap.size w w' := by
  obtain ⟨a0, c0, e0⟩ := h.1.1.slice
  obtain ⟨a1, c1, e1⟩ := h.2.1.1.slice
  obtain ⟨a2, c2, e2⟩ := h.2.2.1.slice
  simp only at e0 e1 e2
  subst e0 e1 e2
  obtain ⟨W0, hW0⟩ : ∃ W0, W0 = ((w.alloc (.cells #[.string ⟨c.id.toArray⟩, .string ⟨c.sec.toArray⟩, .bool c.pub, .slice a0 c.red.length c0, .slice a1 c.sco.length c1, .slice a2 c.gra.length c2] 54)).alloc (.cells #[.string ⟨#[]⟩, .string ⟨#[]⟩, .bool false, .slice none 0 0, .slice none 0 0, .slice none 0 0] 54)).drew := ⟨_, rfl⟩
  have hb0 : Below w.heap.size w W0 := by rw [hW0]; exact (((Below.refl _ _).alloc (Nat.le_refl _) _).alloc (by simp) _).drew
  have hbk0 : Blk W0 w.heap.size 54 (c6 c (.slice a0 c.red.length c0, .slice a1 c.sco.length c1, .slice a2 c.gra.length c2)) := by rw [hW0]; exact ((Blk.new w 54 _).alloc _).drew
  have hrk0 : Blk W0 (w.heap.size + 1) 54 (c6 noC z3) := by
    rw [hW0]
    have := Blk.new (w.alloc (.cells #[.string ⟨c.id.toArray⟩, .string ⟨c.sec.toArray⟩, .bool c.pub, .slice a0 c.red.length c0, .slice a1 c.sco.length c1, .slice a2 c.gra.length c2] 54)) 54 (c6 noC z3)
    rw [World.size_alloc] at this
    exact this.drew
  have hsz0 : w.heap.size + 2 ≤ W0.heap.size := by rw [hW0]; simp
  obtain ⟨u0, W1, hc1, ho1, hb1⟩ := clone_exact c.red _ W0 (h.1.below hb0) h1
  have hb01 := hb0.trans (hb1.mono hb0.size)
  have hbk1 := hbk0.below hb1 hbk0.lt
  obtain ⟨u1, W2, hc2, ho2, hb2⟩ := clone_exact c.sco _ W1 (h.2.1.below hb01) h2
  have hb02 := hb01.trans (hb2.mono hb01.size)
  have hbk2 := hbk1.below hb2 hbk1.lt
  obtain ⟨u2, W3, hc3, ho3, hb3⟩ := clone_exact c.gra _ W2 (h.2.2.below hb02) h3
  have hb03 := hb02.trans (hb3.mono hb02.size)
  have hbk3 := hbk2.below hb3 hbk2.lt
  have hbk4 := (hbk3.set 3 u0)
  have hbk5 := (hbk4.set 4 u1)
  have hbk6 := (hbk5.set 5 u2)
  have hrk3 := (((hrk0.below hb1 hrk0.lt).below hb2 (by have h1 := hrk0.lt; have h2 := hb1.size; omega)).below hb3 (by have h1 := hrk0.lt; have h2 := hb1.size; have h3 := hb2.size; omega))
  have HRK := Lib.hid hrk3
  obtain ⟨x0, y0, e0⟩ := (Rd.of_own ho1).slice
  obtain ⟨x1, y1, e1⟩ := (Rd.of_own ho2).slice
  obtain ⟨x2, y2, e2⟩ := (Rd.of_own ho3).slice
  subst e0 e1 e2
  have HC := Lib.hid (And.intro hc1 (And.intro hc2 hc3))
  have HB := Lib.hid (And.intro hbk0 (And.intro hbk1 (And.intro hbk2 (And.intro hbk3 (And.intro hbk4 (And.intro hbk5 hbk6))))))
  have hbs : Below w.heap.size w (((W3.setCell ⟨w.heap.size, 3, none⟩ (.slice x0 c.red.length y0)).setCell ⟨w.heap.size, 4, none⟩ (.slice x1 c.sco.length y1)).setCell ⟨w.heap.size, 5, none⟩ (.slice x2 c.gra.length y2)) := ((hb03.setCell (Nat.le_refl _) _).setCell (Nat.le_refl _) _).setCell (Nat.le_refl _) _
  have hl1 := ho1.lt
  have hl2 := ho2.lt
  have hl3 := ho3.lt
  have hs0 := hbk0.lt
  have hs1 := hb1.size
  have hs2 := hb2.size
  have hs3 := hb3.size
  have HE : Hid (OwC (((W3.setCell ⟨w.heap.size, 3, none⟩ (.slice x0 c.red.length y0)).setCell ⟨w.heap.size, 4, none⟩ (.slice x1 c.sco.length y1)).setCell ⟨w.heap.size, 5, none⟩ (.slice x2 c.gra.length y2)) (w.heap.size + 2) c (.slice x0 c.red.length y0, .slice x1 c.sco.length y1, .slice x2 c.gra.length y2) ∧ Below w.heap.size w (((W3.setCell ⟨w.heap.size, 3, none⟩ (.slice x0 c.red.length y0)).setCell ⟨w.heap.size, 4, none⟩ (.slice x1 c.sco.length y1)).setCell ⟨w.heap.size, 5, none⟩ (.slice x2 c.gra.length y2))) := Lib.hid (by
    have hk : ∀ k, k ≠ w.heap.size → (((W3.setCell ⟨w.heap.size, 3, none⟩ (.slice x0 c.red.length y0)).setCell ⟨w.heap.size, 4, none⟩ (.slice x1 c.sco.length y1)).setCell ⟨w.heap.size, 5, none⟩ (.slice x2 c.gra.length y2)).heap[k]? = W3.heap[k]? := fun k hk => by
      rw [Below.heap_setCell _ _ _ _ hk, Below.heap_setCell _ _ _ _ hk, Below.heap_setCell _ _ _ _ hk]
    refine ⟨⟨own_mono (own_keepB ho1 (fun k hk2 => ?_)) (by omega), own_mono (own_keepB ho2 (fun k hk2 => ?_)) (by omega), own_mono (own_keepB ho3 (fun k hk2 => ?_)) (by omega), fun k a1 a2 => ?_, fun k a1 a2 => ?_, fun k a1 a2 => ?_⟩, hbs⟩
    · have := hl1 k hk2
      exact (hk k (by omega)).trans ((hb3.block k (by omega)).trans (hb2.block k (by omega)))
    · have := hl2 k hk2
      exact (hk k (by omega)).trans (hb3.block k (by omega))
    · have := hl3 k hk2
      exact hk k (by omega)
    · have := hl1 k a1; have := hl2 k a2; omega
    · have := hl1 k a1; have := hl3 k a2; omega
    · have := hl2 k a1; have := hl3 k a2; omega)
  have HW0 := Lib.hid hW0
  have HBOX : Hid (∀ (n : Nat) (W : World), n ≤ 3 → (fun n (W : World) => match n with | 0 => W = W0 | 1 => W = W1 | 2 => W = W2 | 3 => W = W3 | 4 => W = W3.setCell ⟨w.heap.size, 3, none⟩ (.slice x0 c.red.length y0) | 5 => W = (W3.setCell ⟨w.heap.size, 3, none⟩ (.slice x0 c.red.length y0)).setCell ⟨w.heap.size, 4, none⟩ (.slice x1 c.sco.length y1) | _ => W = ((W3.setCell ⟨w.heap.size, 3, none⟩ (.slice x0 c.red.length y0)).setCell ⟨w.heap.size, 4, none⟩ (.slice x1 c.sco.length y1)).setCell ⟨w.heap.size, 5, none⟩ (.slice x2 c.gra.length y2)) n W →
      W.cell? ⟨w.heap.size, 3, none⟩ = some (.slice a0 c.red.length c0) ∧ W.cell? ⟨w.heap.size, 4, none⟩ = some (.slice a1 c.sco.length c1) ∧ W.cell? ⟨w.heap.size, 5, none⟩ = some (.slice a2 c.gra.length c2)) := Lib.hid (fun n W hn hW => by
    match n, hn, hW with
    | 0, _, hW => rw [show W = _ from hW]; exact ⟨hbk0.cell 3 rfl, hbk0.cell 4 rfl, hbk0.cell 5 rfl⟩
    | 1, _, hW => rw [show W = _ from hW]; exact ⟨hbk1.cell 3 rfl, hbk1.cell 4 rfl, hbk1.cell 5 rfl⟩
    | 2, _, hW => rw [show W = _ from hW]; exact ⟨hbk2.cell 3 rfl, hbk2.cell 4 rfl, hbk2.cell 5 rfl⟩
    | 3, _, hW => rw [show W = _ from hW]; exact ⟨hbk3.cell 3 rfl, hbk3.cell 4 rfl, hbk3.cell 5 rfl⟩)
  clear hrk0 hrk3 hsz0 hW0 hb0 hbk0 hc1 ho1 hb1 hb01 hbk1 hc2 ho2 hb2 hb02 hbk2 hc3 ho3 hb3 hb03 hbk3 hbk4 hbk5 hbk6 hbs hl1 hl2 hl3 hs0 hs1 hs2 hs3 h h1 h2 h3
  go_enter Tryz.func18, Tryz.ntmps18
  go_wp2_with fail
  refine wp_region_W [3, 7, 11, 14, 17, 20] (fun n (W : World) => match n with | 0 => W = W0 | 1 => W = W1 | 2 => W = W2 | 3 => W = W3 | 4 => W = W3.setCell ⟨w.heap.size, 3, none⟩ (.slice x0 c.red.length y0) | 5 => W = (W3.setCell ⟨w.heap.size, 3, none⟩ (.slice x0 c.red.length y0)).setCell ⟨w.heap.size, 4, none⟩ (.slice x1 c.sco.length y1) | _ => W = ((W3.setCell ⟨w.heap.size, 3, none⟩ (.slice x0 c.red.length y0)).setCell ⟨w.heap.size, 4, none⟩ (.slice x1 c.sco.length y1)).setCell ⟨w.heap.size, 5, none⟩ (.slice x2 c.gra.length y2)) (by kernel_rfl) (by rfl) ?_ ?_
  · exact HW0.out.symm
  refine wpW_take (i := 0) (oi := ?oi1) (v := ?v1) ?hi1 (by kernel_rfl) (by kernel_rfl) (by kernel_rfl) (by rfl) ?hy1 ?rest1
  case hi1 => (simp only [List.getElem?_toArray, List.getElem?_cons_succ, List.getElem?_cons_zero]; rfl)
  case hy1 => (refine Or.inl ⟨by rfl, ?_⟩; intro n W hn hSw; skip; go_simp; (try with_reducible rfl))
  try simp only [Act.put, List.setIfInBounds_toArray, List.set_cons_zero, List.set_cons_succ]
  refine wpW_take (i := 1) (oi := ?oi2) (v := ?v2) ?hi2 (by kernel_rfl) (by kernel_rfl) (by kernel_rfl) (by rfl) ?hy2 ?rest2
  case hi2 => (simp only [List.getElem?_toArray, List.getElem?_cons_succ, List.getElem?_cons_zero]; rfl)
  case hy2 => (refine Or.inl ⟨by rfl, ?_⟩; intro n W hn hSw; skip; go_simp; (try with_reducible rfl))
  try simp only [Act.put, List.setIfInBounds_toArray, List.set_cons_zero, List.set_cons_succ]
  refine wpW_takeB (i := 2) 3 14 (oi := ?oi3) (v := ?v3) ?hi3 (by rfl) (by kernel_rfl) (by rfl) (by kernel_rfl) (by kernel_rfl) (by kernel_rfl) (by rfl) ?hy3 ?rest3
  case hi3 => (simp only [List.getElem?_toArray, List.getElem?_cons_succ, List.getElem?_cons_zero]; rfl)
  case hy3 => (refine ⟨by rfl, ?_⟩; intro n W hn hSw; (obtain ⟨d0, d1, d2⟩ := HBOX.out n W hn hSw; clear hSw hn); go_simp; (try with_reducible rfl))
  try simp only [Act.put, List.setIfInBounds_toArray, List.set_cons_zero, List.set_cons_succ]
  refine wpW_turn 0 (k := 3) (oi := ?oi4) (v := .slice x0 c.red.length y0) (by rfl) ?hi4 (by rfl) (by rfl) (by kernel_rfl) (by kernel_rfl) (by kernel_rfl) (by kernel_rfl) ?hy4 ?rest4
  case hi4 => (simp only [List.getElem?_toArray, List.getElem?_cons_succ, List.getElem?_cons_zero]; rfl)
  case hy4 =>
    refine Or.inl (Or.inr (Or.inr (Or.inl ⟨by rfl, 43, #[.slice a0 c.red.length c0], fun W hSw => ?_, fun W hSw => ?_⟩)))
    · (go_simp; (try rfl))
    · rw [show W = W0 from hSw]
      exact HC.out.1.mono (fun e w' h => h)
  try simp only [Act.put, List.setIfInBounds_toArray, List.set_cons_zero, List.set_cons_succ]
  refine wpW_take (i := 4) (oi := ?oi5) (v := ?v5) ?hi5 (by kernel_rfl) (by kernel_rfl) (by kernel_rfl) (by rfl) ?hy5 ?rest5
  case hi5 => (simp only [List.getElem?_toArray, List.getElem?_cons_succ, List.getElem?_cons_zero]; rfl)
  case hy5 => (refine Or.inl ⟨by rfl, ?_⟩; intro n W hn hSw; skip; go_simp; (try with_reducible rfl))
  try simp only [Act.put, List.setIfInBounds_toArray, List.set_cons_zero, List.set_cons_succ]
  refine wpW_take (i := 5) (oi := ?oi6) (v := ?v6) ?hi6 (by kernel_rfl) (by kernel_rfl) (by kernel_rfl) (by rfl) ?hy6 ?rest6
  case hi6 => (simp only [List.getElem?_toArray, List.getElem?_cons_succ, List.getElem?_cons_zero]; rfl)
  case hy6 => (refine Or.inl ⟨by rfl, ?_⟩; intro n W hn hSw; skip; go_simp; (try with_reducible rfl))
  try simp only [Act.put, List.setIfInBounds_toArray, List.set_cons_zero, List.set_cons_succ]
  refine wpW_takeB (i := 6) 3 14 (oi := ?oi7) (v := ?v7) ?hi7 (by rfl) (by kernel_rfl) (by rfl) (by kernel_rfl) (by kernel_rfl) (by kernel_rfl) (by rfl) ?hy7 ?rest7
  case hi7 => (simp only [List.getElem?_toArray, List.getElem?_cons_succ, List.getElem?_cons_zero]; rfl)
  case hy7 => (refine ⟨by rfl, ?_⟩; intro n W hn hSw; (obtain ⟨d0, d1, d2⟩ := HBOX.out n W hn hSw; clear hSw hn); go_simp; (try with_reducible rfl))
  try simp only [Act.put, List.setIfInBounds_toArray, List.set_cons_zero, List.set_cons_succ]
  refine wpW_turn 1 (k := 7) (oi := ?oi8) (v := .slice x1 c.sco.length y1) (by rfl) ?hi8 (by rfl) (by rfl) (by kernel_rfl) (by kernel_rfl) (by kernel_rfl) (by kernel_rfl) ?hy8 ?rest8
  case hi8 => (simp only [List.getElem?_toArray, List.getElem?_cons_succ, List.getElem?_cons_zero]; rfl)
  case hy8 =>
    refine Or.inl (Or.inr (Or.inr (Or.inl ⟨by rfl, 43, #[.slice a1 c.sco.length c1], fun W hSw => ?_, fun W hSw => ?_⟩)))
    · (go_simp; (try rfl))
    · rw [show W = W1 from hSw]
      exact HC.out.2.1.mono (fun e w' h => h)
  try simp only [Act.put, List.setIfInBounds_toArray, List.set_cons_zero, List.set_cons_succ]
  refine wpW_take (i := 8) (oi := ?oi9) (v := ?v9) ?hi9 (by kernel_rfl) (by kernel_rfl) (by kernel_rfl) (by rfl) ?hy9 ?rest9
  case hi9 => (simp only [List.getElem?_toArray, List.getElem?_cons_succ, List.getElem?_cons_zero]; rfl)
  case hy9 => (refine Or.inl ⟨by rfl, ?_⟩; intro n W hn hSw; skip; go_simp; (try with_reducible rfl))
  try simp only [Act.put, List.setIfInBounds_toArray, List.set_cons_zero, List.set_cons_succ]
  refine wpW_take (i := 9) (oi := ?oi10) (v := ?v10) ?hi10 (by kernel_rfl) (by kernel_rfl) (by kernel_rfl) (by rfl) ?hy10 ?rest10
  case hi10 => (simp only [List.getElem?_toArray, List.getElem?_cons_succ, List.getElem?_cons_zero]; rfl)
  case hy10 => (refine Or.inl ⟨by rfl, ?_⟩; intro n W hn hSw; skip; go_simp; (try with_reducible rfl))
  try simp only [Act.put, List.setIfInBounds_toArray, List.set_cons_zero, List.set_cons_succ]
  refine wpW_takeB (i := 10) 3 14 (oi := ?oi11) (v := ?v11) ?hi11 (by rfl) (by kernel_rfl) (by rfl) (by kernel_rfl) (by kernel_rfl) (by kernel_rfl) (by rfl) ?hy11 ?rest11
  case hi11 => (simp only [List.getElem?_toArray, List.getElem?_cons_succ, List.getElem?_cons_zero]; rfl)
  case hy11 => (refine ⟨by rfl, ?_⟩; intro n W hn hSw; (obtain ⟨d0, d1, d2⟩ := HBOX.out n W hn hSw; clear hSw hn); go_simp; (try with_reducible rfl))
  try simp only [Act.put, List.setIfInBounds_toArray, List.set_cons_zero, List.set_cons_succ]
  refine wpW_turn 2 (k := 11) (oi := ?oi12) (v := .slice x2 c.gra.length y2) (by rfl) ?hi12 (by rfl) (by rfl) (by kernel_rfl) (by kernel_rfl) (by kernel_rfl) (by kernel_rfl) ?hy12 ?rest12
  case hi12 => (simp only [List.getElem?_toArray, List.getElem?_cons_succ, List.getElem?_cons_zero]; rfl)
  case hy12 =>
    refine Or.inl (Or.inr (Or.inr (Or.inl ⟨by rfl, 43, #[.slice a2 c.gra.length c2], fun W hSw => ?_, fun W hSw => ?_⟩)))
    · (go_simp; (try rfl))
    · rw [show W = W2 from hSw]
      exact HC.out.2.2.mono (fun e w' h => h)
  try simp only [Act.put, List.setIfInBounds_toArray, List.set_cons_zero, List.set_cons_succ]
  refine wpW_take (i := 12) (oi := ?oi13) (v := ?v13) ?hi13 (by kernel_rfl) (by kernel_rfl) (by kernel_rfl) (by rfl) ?hy13 ?rest13
  case hi13 => (simp only [List.getElem?_toArray, List.getElem?_cons_succ, List.getElem?_cons_zero]; rfl)
  case hy13 => (refine Or.inl ⟨by rfl, ?_⟩; intro n W hn hSw; skip; go_simp; (try with_reducible rfl))
  try simp only [Act.put, List.setIfInBounds_toArray, List.set_cons_zero, List.set_cons_succ]
  refine wpW_take (i := 13) (oi := ?oi14) (v := ?v14) ?hi14 (by kernel_rfl) (by kernel_rfl) (by kernel_rfl) (by rfl) ?hy14 ?rest14
  case hi14 => (simp only [List.getElem?_toArray, List.getElem?_cons_succ, List.getElem?_cons_zero]; rfl)
  case hy14 => (refine Or.inl ⟨by rfl, ?_⟩; intro n W hn hSw; skip; go_simp; (try with_reducible rfl))
  try simp only [Act.put, List.setIfInBounds_toArray, List.set_cons_zero, List.set_cons_succ]
  refine wpW_turn 3 (k := 14) (oi := ?oi15) (v := undef) (by rfl) ?hi15 (by rfl) (by rfl) (by kernel_rfl) (by kernel_rfl) (by kernel_rfl) (by kernel_rfl) ?hy15 ?rest15
  case hi15 => (simp only [List.getElem?_toArray, List.getElem?_cons_succ, List.getElem?_cons_zero]; rfl)
  case hy15 =>
    refine Or.inr ⟨by rfl, rfl, fun w' hw' => ⟨W3.setCell ⟨w.heap.size, 3, none⟩ (.slice x0 c.red.length y0), ?_, rfl⟩⟩
    rw [show w' = W3 from hw']
    have c7 := (show Blk _ w.heap.size 54 _ from HB.out.2.2.2.1).cell 3 rfl
    have z7 := (show Blk _ w.heap.size 54 _ from HB.out.2.2.2.1).frozen 3
    go_simp
    (try rfl)
  try simp only [Act.put, List.setIfInBounds_toArray, List.set_cons_zero, List.set_cons_succ]
  refine wpW_take (i := 15) (oi := ?oi16) (v := ?v16) ?hi16 (by kernel_rfl) (by kernel_rfl) (by kernel_rfl) (by rfl) ?hy16 ?rest16
  case hi16 => (simp only [List.getElem?_toArray, List.getElem?_cons_succ, List.getElem?_cons_zero]; rfl)
  case hy16 => (refine Or.inl ⟨by rfl, ?_⟩; intro n W hn hSw; skip; go_simp; (try with_reducible rfl))
  try simp only [Act.put, List.setIfInBounds_toArray, List.set_cons_zero, List.set_cons_succ]
  refine wpW_take (i := 16) (oi := ?oi17) (v := ?v17) ?hi17 (by kernel_rfl) (by kernel_rfl) (by kernel_rfl) (by rfl) ?hy17 ?rest17
  case hi17 => (simp only [List.getElem?_toArray, List.getElem?_cons_succ, List.getElem?_cons_zero]; rfl)
  case hy17 => (refine Or.inl ⟨by rfl, ?_⟩; intro n W hn hSw; skip; go_simp; (try with_reducible rfl))
  try simp only [Act.put, List.setIfInBounds_toArray, List.set_cons_zero, List.set_cons_succ]
  refine wpW_turn 4 (k := 17) (oi := ?oi18) (v := undef) (by rfl) ?hi18 (by rfl) (by rfl) (by kernel_rfl) (by kernel_rfl) (by kernel_rfl) (by kernel_rfl) ?hy18 ?rest18
  case hi18 => (simp only [List.getElem?_toArray, List.getElem?_cons_succ, List.getElem?_cons_zero]; rfl)
  case hy18 =>
    refine Or.inr ⟨by rfl, rfl, fun w' hw' => ⟨(W3.setCell ⟨w.heap.size, 3, none⟩ (.slice x0 c.red.length y0)).setCell ⟨w.heap.size, 4, none⟩ (.slice x1 c.sco.length y1), ?_, rfl⟩⟩
    rw [show w' = (W3.setCell ⟨w.heap.size, 3, none⟩ (.slice x0 c.red.length y0)) from hw']
    have c7 := (show Blk _ w.heap.size 54 _ from HB.out.2.2.2.2.1).cell 4 rfl
    have z7 := (show Blk _ w.heap.size 54 _ from HB.out.2.2.2.2.1).frozen 4
    go_simp
    (try rfl)
  try simp only [Act.put, List.setIfInBounds_toArray, List.set_cons_zero, List.set_cons_succ]
  refine wpW_take (i := 18) (oi := ?oi19) (v := ?v19) ?hi19 (by kernel_rfl) (by kernel_rfl) (by kernel_rfl) (by rfl) ?hy19 ?rest19
  case hi19 => (simp only [List.getElem?_toArray, List.getElem?_cons_succ, List.getElem?_cons_zero]; rfl)
  case hy19 => (refine Or.inl ⟨by rfl, ?_⟩; intro n W hn hSw; skip; go_simp; (try with_reducible rfl))
  try simp only [Act.put, List.setIfInBounds_toArray, List.set_cons_zero, List.set_cons_succ]
  refine wpW_take (i := 19) (oi := ?oi20) (v := ?v20) ?hi20 (by kernel_rfl) (by kernel_rfl) (by kernel_rfl) (by rfl) ?hy20 ?rest20
  case hi20 => (simp only [List.getElem?_toArray, List.getElem?_cons_succ, List.getElem?_cons_zero]; rfl)
  case hy20 => (refine Or.inl ⟨by rfl, ?_⟩; intro n W hn hSw; skip; go_simp; (try with_reducible rfl))
  try simp only [Act.put, List.setIfInBounds_toArray, List.set_cons_zero, List.set_cons_succ]
  refine wpW_turn 5 (k := 20) (oi := ?oi21) (v := undef) (by rfl) ?hi21 (by rfl) (by rfl) (by kernel_rfl) (by kernel_rfl) (by kernel_rfl) (by kernel_rfl) ?hy21 ?rest21
  case hi21 => (simp only [List.getElem?_toArray, List.getElem?_cons_succ, List.getElem?_cons_zero]; rfl)
  case hy21 =>
    refine Or.inr ⟨by rfl, rfl, fun w' hw' => ⟨((W3.setCell ⟨w.heap.size, 3, none⟩ (.slice x0 c.red.length y0)).setCell ⟨w.heap.size, 4, none⟩ (.slice x1 c.sco.length y1)).setCell ⟨w.heap.size, 5, none⟩ (.slice x2 c.gra.length y2), ?_, rfl⟩⟩
    rw [show w' = ((W3.setCell ⟨w.heap.size, 3, none⟩ (.slice x0 c.red.length y0)).setCell ⟨w.heap.size, 4, none⟩ (.slice x1 c.sco.length y1)) from hw']
    have c7 := (show Blk _ w.heap.size 54 _ from HB.out.2.2.2.2.2.1).cell 5 rfl
    have z7 := (show Blk _ w.heap.size 54 _ from HB.out.2.2.2.2.2.1).frozen 5
    go_simp
    (try rfl)
  try simp only [Act.put, List.setIfInBounds_toArray, List.set_cons_zero, List.set_cons_succ]
  refine wpW_done (by kernel_rfl) (by rfl) ?_ _
  intro W hSw
  rw [show W = ((W3.setCell ⟨w.heap.size, 3, none⟩ (.slice x0 c.red.length y0)).setCell ⟨w.heap.size, 4, none⟩ (.slice x1 c.sco.length y1)).setCell ⟨w.heap.size, 5, none⟩ (.slice x2 c.gra.length y2) from hSw]
  have hbk := HB.out.2.2.2.2.2.2
  have hzr : Blk (((W3.setCell ⟨w.heap.size, 3, none⟩ (.slice x0 c.red.length y0)).setCell ⟨w.heap.size, 4, none⟩ (.slice x1 c.sco.length y1)).setCell ⟨w.heap.size, 5, none⟩ (.slice x2 c.gra.length y2)) (w.heap.size + 1) 54 (c6 noC z3) := by
    have h := HRK.out
    unfold Blk at h ⊢
    rw [Below.heap_setCell _ _ _ _ (by simp), Below.heap_setCell _ _ _ _ (by simp), Below.heap_setCell _ _ _ _ (by simp)]
    exact h
  generalize (((W3.setCell ⟨w.heap.size, 3, none⟩ (.slice x0 c.red.length y0)).setCell ⟨w.heap.size, 4, none⟩ (.slice x1 c.sco.length y1)).setCell ⟨w.heap.size, 5, none⟩ (.slice x2 c.gra.length y2)) = WE at *
  have d0 := (show Blk WE w.heap.size 54 _ from hbk).cell 0 rfl
  have d1 := (show Blk WE w.heap.size 54 _ from hbk).cell 1 rfl
  have d2 := (show Blk WE w.heap.size 54 _ from hbk).cell 2 rfl
  have d3 := (show Blk WE w.heap.size 54 _ from hbk).cell 3 rfl
  have d4 := (show Blk WE w.heap.size 54 _ from hbk).cell 4 rfl
  have d5 := (show Blk WE w.heap.size 54 _ from hbk).cell 5 rfl
  have r0 := hzr.cell 0 rfl
  have r1 := hzr.cell 1 rfl
  have r2 := hzr.cell 2 rfl
  have r3 := hzr.cell 3 rfl
  have r4 := hzr.cell 4 rfl
  have r5 := hzr.cell 5 rfl
  have f0 := hzr.frozen 0
  have f1 := hzr.frozen 1
  have f2 := hzr.frozen 2
  have f3 := hzr.frozen 3
  have f4 := hzr.frozen 4
  have f5 := hzr.frozen 5
  have HZ := Lib.hid hzr
  clear hSw HBOX HC HW0 hbk hzr HRK HB
  go_wp2_with fail
  refine ret_cl rfl rfl rfl (Blk.set6 (x := c) (y := (.slice x0 c.red.length y0, .slice x1 c.sco.length y1, .slice x2 c.gra.length y2)) HZ.out) ?_
  have hk : ∀ k, w.heap.size + 2 ≤ k → (set6 WE (w.heap.size + 1) c (.slice x0 c.red.length y0, .slice x1 c.sco.length y1, .slice x2 c.gra.length y2)).heap[k]? = WE.heap[k]? := fun k hk => heap_set6 (by omega)
  exact ⟨_, _, _, rfl, ⟨own_mono (own_keepB HE.out.1.r (fun k h => hk k (World.ownsRow.lt HE.out.1.r k h).1)) (by omega), own_mono (own_keepB HE.out.1.s (fun k h => hk k (World.ownsRow.lt HE.out.1.s k h).1)) (by omega), own_mono (own_keepB HE.out.1.g (fun k h => hk k (World.ownsRow.lt HE.out.1.g k h).1)) (by omega), HE.out.1.rs, HE.out.1.rg, HE.out.1.sg⟩, below_set6 HE.out.2 (by omega)⟩
end Go.Proofs.YtonbpekogfaibaaGreat.Ro
