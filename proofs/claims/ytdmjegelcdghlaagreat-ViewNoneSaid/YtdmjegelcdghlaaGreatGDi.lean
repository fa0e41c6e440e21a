/-
  Chapter 22: appends onto a replica's rows; save, mine, turn.
  (Texts put together: Di.)
-/
import Derived.Test.YtdmjegelcdghlaaGreatGDg
import Derived.Test.YtdmjegelcdghlaaGreatGUy
namespace Go.Proofs.YtdmjegelcdghlaaGreat.Vw
open Go.RowKit Go.Maps
set_option linter.unusedVariables false
set_option linter.unusedSimpArgs false
set_option maxRecDepth 100000

theorem RV.app_lg {i : Nat} {c : Lb} {W : World} {p : Nat} {q : Rp Op} {lv hv xv sv uv : Value} (hp : c p = 10 + 10 * i) (hb : Blk W p 94 (rpC q lv hv xv sv uv)) (hr : RP i c W q lv hv xv sv uv) {xs : Value} {m : List Op} (hx : ∃ us, Inn (opE 1) c W m us ∧ Rd W (opE 1).sz xs m.length (flat (opE 1) m us)) (hn : q.log.length + m.length ≤ 1073741824) :
    ∃ v' W5, (Builtin.append_ #[35, 35] 35 #[lv, xs]).run Tryz.prog W = .ok v' W5 ∧ (∃ a cp, v' = .slice a (q.log.length + m.length) cp) ∧ W5.cell? ⟨p, 10, none⟩ = some lv ∧ W5.frozen? ⟨p, 10, none⟩ = false ∧
      ∃ c', Lx W c c' ∧ Fr (fun l => l = 10 + 10 * i ∨ l = 11 + 10 * i) c W (W5.setCell ⟨p, 10, none⟩ v') ∧ RV i c' (W5.setCell ⟨p, 10, none⟩ v') p { q with log := q.log ++ m } ∧ Blk W5 p 94 (rpC q lv hv xv sv uv) ∧ RV i c' (W5.setCell ⟨p, 10, none⟩ v') p { q with log := q.log ++ m } := by
  obtain ⟨v', W5, hrun, hlx5, hrow5, hfr5, hbl5⟩ := hr.lg.app (t := 35) (ty := 35) (m := m) (opE_ok 1) Tryz.underlying35 op_row rfl hx (fun e => by have : 11 + 10 * i = 1 := e; omega) (by omega) (by unfold maxLen; omega)
  have hpl := hb.lt
  have hb5 : Blk W5 p 94 (rpC q lv hv xv sv uv) := (hfr5.block p hpl fun e => by rw [hp] at e; omega).trans hb
  have hkeep : ∀ k, k < W.heap.size → c k ≠ 11 + 10 * i → c k ≠ 10 + 10 * i → (W5.setCell ⟨p, 10, none⟩ v').heap[k]? = W.heap[k]? := fun k hk h1 h2 => by
    rw [set_heap_ne _ _ _ _ _ (fun e => h2 (by rw [e]; exact hp))]
    exact hfr5.block k hk h1
  obtain ⟨va, vc, ev⟩ := hrow5.slice
  have hRV : RV i (c.row v' (11 + 10 * i)) (W5.setCell ⟨p, 10, none⟩ v') p { q with log := q.log ++ m } := by
    refine ⟨(hlx5 p hpl).trans hp, v', hv, xv, sv, uv, hb5.set 10 v', ?_⟩
    have hnew : Row (opE 1) (c.row v' (11 + 10 * i)) (11 + 10 * i) (W5.setCell ⟨p, 10, none⟩ v') v' (q.log ++ m) := hrow5.keep (opE_ok 1) (Lx.refl _ _) fun k hk hl => set_heap_ne _ _ _ _ _ fun e => by
      subst e
      have h1 : c.row v' (11 + 10 * i) k = 10 + 10 * i := (hlx5 k hpl).trans hp
      rw [h1] at hl
      rcases hl with hl | hl
      · have : 10 + 10 * i = 1 := hl
        omega
      · omega
    exact ⟨hnew, hr.hvK hlx5 (fun k hk hl => hkeep k hk (by omega) (by omega)), hr.of.keep hlx5 (fun k hk hl => hkeep k hk (by omega) (by omega)), hr.svK hlx5 (fun k hk hl => hkeep k hk (by omega) (by omega)), hr.ouK hlx5 (fun k hk hl => hkeep k hk (by omega) (by omega))⟩
  refine ⟨v', W5, hrun, ⟨va, vc, by rw [ev]; simp⟩, hb5.cell 10 rfl, hb5.frozen 10, c.row v' (11 + 10 * i), hlx5, ?_, hRV, hb5, hRV⟩
  exact (hfr5.mono fun l hl => .inr hl).set _ _ fun _ => .inl hp
theorem RV.app_sv {i : Nat} {c : Lb} {W : World} {p : Nat} {q : Rp Op} {lv hv xv sv uv : Value} (hp : c p = 10 + 10 * i) (hb : Blk W p 94 (rpC q lv hv xv sv uv)) (hr : RP i c W q lv hv xv sv uv) {xs : Value} {m : List (Sv Op)} (hx : ∃ us, Inn (svE 2) c W m us ∧ Rd W (svE 2).sz xs m.length (flat (svE 2) m us)) (hn : q.saves.length + m.length ≤ 1073741824) :
    ∃ v' W5, (Builtin.append_ #[42, 42] 42 #[sv, xs]).run Tryz.prog W = .ok v' W5 ∧ (∃ a cp, v' = .slice a (q.saves.length + m.length) cp) ∧ W5.cell? ⟨p, 14, none⟩ = some sv ∧ W5.frozen? ⟨p, 14, none⟩ = false ∧
      ∃ c', Lx W c c' ∧ Fr (fun l => l = 10 + 10 * i ∨ l = 14 + 10 * i) c W (W5.setCell ⟨p, 14, none⟩ v') ∧ RV i c' (W5.setCell ⟨p, 14, none⟩ v') p { q with saves := q.saves ++ m } ∧ Blk W5 p 94 (rpC q lv hv xv sv uv) ∧ RV i c' (W5.setCell ⟨p, 14, none⟩ v') p { q with saves := q.saves ++ m } := by
  obtain ⟨v', W5, hrun, hlx5, hrow5, hfr5, hbl5⟩ := hr.sv.app (t := 42) (ty := 42) (m := m) (svE_ok 2) Tryz.underlying42 sv_row rfl hx (fun e => by have : 14 + 10 * i = 2 := e; omega) (by omega) (by unfold maxLen; omega)
  have hpl := hb.lt
  have hb5 : Blk W5 p 94 (rpC q lv hv xv sv uv) := (hfr5.block p hpl fun e => by rw [hp] at e; omega).trans hb
  have hkeep : ∀ k, k < W.heap.size → c k ≠ 14 + 10 * i → c k ≠ 10 + 10 * i → (W5.setCell ⟨p, 14, none⟩ v').heap[k]? = W.heap[k]? := fun k hk h1 h2 => by
    rw [set_heap_ne _ _ _ _ _ (fun e => h2 (by rw [e]; exact hp))]
    exact hfr5.block k hk h1
  obtain ⟨va, vc, ev⟩ := hrow5.slice
  have hRV : RV i (c.row v' (14 + 10 * i)) (W5.setCell ⟨p, 14, none⟩ v') p { q with saves := q.saves ++ m } := by
    refine ⟨(hlx5 p hpl).trans hp, lv, hv, xv, v', uv, hb5.set 14 v', ?_⟩
    have hnew : Row (svE 2) (c.row v' (14 + 10 * i)) (14 + 10 * i) (W5.setCell ⟨p, 14, none⟩ v') v' (q.saves ++ m) := hrow5.keep (svE_ok 2) (Lx.refl _ _) fun k hk hl => set_heap_ne _ _ _ _ _ fun e => by
      subst e
      have h1 : c.row v' (14 + 10 * i) k = 10 + 10 * i := (hlx5 k hpl).trans hp
      rw [h1] at hl
      rcases hl with hl | hl
      · have : 10 + 10 * i = 2 := hl
        omega
      · omega
    exact ⟨hr.lgK hlx5 (fun k hk hl => hkeep k hk (by omega) (by omega)), hr.hvK hlx5 (fun k hk hl => hkeep k hk (by omega) (by omega)), hr.of.keep hlx5 (fun k hk hl => hkeep k hk (by omega) (by omega)), hnew, hr.ouK hlx5 (fun k hk hl => hkeep k hk (by omega) (by omega))⟩
  refine ⟨v', W5, hrun, ⟨va, vc, by rw [ev]; simp⟩, hb5.cell 14 rfl, hb5.frozen 14, c.row v' (14 + 10 * i), hlx5, ?_, hRV, hb5, hRV⟩
  exact (hfr5.mono fun l hl => .inr hl).set _ _ fun _ => .inl hp
theorem RV.app_ou {i : Nat} {c : Lb} {W : World} {p : Nat} {q : Rp Op} {lv hv xv sv uv : Value} (hp : c p = 10 + 10 * i) (hb : Blk W p 94 (rpC q lv hv xv sv uv)) (hr : RP i c W q lv hv xv sv uv) {xs : Value} {m : List (Sd Op)} (hx : ∃ us, Inn (sdE 3) c W m us ∧ Rd W (sdE 3).sz xs m.length (flat (sdE 3) m us)) (hn : q.out.length + m.length ≤ 1073741824) :
    ∃ v' W5, (Builtin.append_ #[44, 44] 44 #[uv, xs]).run Tryz.prog W = .ok v' W5 ∧ (∃ a cp, v' = .slice a (q.out.length + m.length) cp) ∧ W5.cell? ⟨p, 15, none⟩ = some uv ∧ W5.frozen? ⟨p, 15, none⟩ = false ∧
      ∃ c', Lx W c c' ∧ Fr (fun l => l = 10 + 10 * i ∨ l = 15 + 10 * i) c W (W5.setCell ⟨p, 15, none⟩ v') ∧ RV i c' (W5.setCell ⟨p, 15, none⟩ v') p { q with out := q.out ++ m } ∧ Blk W5 p 94 (rpC q lv hv xv sv uv) ∧ RV i c' (W5.setCell ⟨p, 15, none⟩ v') p { q with out := q.out ++ m } := by
  obtain ⟨v', W5, hrun, hlx5, hrow5, hfr5, hbl5⟩ := hr.ou.app (t := 44) (ty := 44) (m := m) (sdE_ok 3) Tryz.underlying44 sd_row rfl hx (fun e => by have : 15 + 10 * i = 3 := e; omega) (by omega) (by unfold maxLen; omega)
  have hpl := hb.lt
  have hb5 : Blk W5 p 94 (rpC q lv hv xv sv uv) := (hfr5.block p hpl fun e => by rw [hp] at e; omega).trans hb
  have hkeep : ∀ k, k < W.heap.size → c k ≠ 15 + 10 * i → c k ≠ 10 + 10 * i → (W5.setCell ⟨p, 15, none⟩ v').heap[k]? = W.heap[k]? := fun k hk h1 h2 => by
    rw [set_heap_ne _ _ _ _ _ (fun e => h2 (by rw [e]; exact hp))]
    exact hfr5.block k hk h1
  obtain ⟨va, vc, ev⟩ := hrow5.slice
  have hRV : RV i (c.row v' (15 + 10 * i)) (W5.setCell ⟨p, 15, none⟩ v') p { q with out := q.out ++ m } := by
    refine ⟨(hlx5 p hpl).trans hp, lv, hv, xv, sv, v', hb5.set 15 v', ?_⟩
    have hnew : Row (sdE 3) (c.row v' (15 + 10 * i)) (15 + 10 * i) (W5.setCell ⟨p, 15, none⟩ v') v' (q.out ++ m) := hrow5.keep (sdE_ok 3) (Lx.refl _ _) fun k hk hl => set_heap_ne _ _ _ _ _ fun e => by
      subst e
      have h1 : c.row v' (15 + 10 * i) k = 10 + 10 * i := (hlx5 k hpl).trans hp
      rw [h1] at hl
      rcases hl with hl | hl
      · have : 10 + 10 * i = 3 := hl
        omega
      · omega
    exact ⟨hr.lgK hlx5 (fun k hk hl => hkeep k hk (by omega) (by omega)), hr.hvK hlx5 (fun k hk hl => hkeep k hk (by omega) (by omega)), hr.of.keep hlx5 (fun k hk hl => hkeep k hk (by omega) (by omega)), hr.svK hlx5 (fun k hk hl => hkeep k hk (by omega) (by omega)), hnew⟩
  refine ⟨v', W5, hrun, ⟨va, vc, by rw [ev]; simp⟩, hb5.cell 15 rfl, hb5.frozen 15, c.row v' (15 + 10 * i), hlx5, ?_, hRV, hb5, hRV⟩
  exact (hfr5.mono fun l hl => .inr hl).set _ _ fun _ => .inl hp
structure LI (r : Rp Op) : Prop where
  n : 1 ≤ r.n ∧ r.n ≤ 7
  id : r.id < r.n
  vw : r.vw ≤ TM
  nr : r.nr ≤ r.vw
  bs : r.bs ≤ r.td ∧ r.td ≤ r.cm ∧ r.cm ≤ r.ls ∧ r.sb ≤ r.cm
  ls : r.ls = r.bs + r.log.length
  lo : r.log.length ≤ 1000000 ∧ r.bs ≤ 2 * TM
  hv : r.hv.length = r.n
  sv : r.saves.length ≤ 50000
  ou : r.out.length ≤ 50000
theorem slice_int (w : World) (t : TypeId) (a : Option Addr) (n cap k : Nat) (ht : Tryz.prog.underlying t = some (.slice (Tryz.prog.elem t))) {s : Nat} (hs : (sizeOf (Tryz.prog.elem t)).run Tryz.prog w = .ok s w) (h : k ≤ n) :
    (Instr.slice t (.slice a n cap) (some (.int .i64 (k : Int))) none none).run Tryz.prog w = .ok (.slice (if cap = k then a else a.map (·.add (k * s))) (n - k) (cap - k)) w := sl_back w t a n cap k .i64 ht hs h
theorem Inn.one {α : Type} {E : Ek α} {c : Lb} {W : World} {u : Value} {a : α} (h : E.inn c W u a) : Inn E c W [a] [u] := ⟨rfl, fun i x y hx hy => by
  cases i with
  | zero => cases hx; cases hy; exact h
  | succ i => simp at hx⟩
theorem flat_single {α : Type} (E : Ek α) (a : α) (u : Value) : flat E [a] [u] = E.cel a u := by simp [flat]
theorem NewO.slice {B : Nat} {w' : World} {v' : Value} {l : List Op} (h : NewO B w' v' l) : ∃ a c, v' = .slice a l.length c := by
  obtain ⟨vs2, _, h2, _⟩ := h.ex
  exact (Rd.of_own h2).slice
set_option maxHeartbeats 8000000 in
theorem save_any {i : Nat} {c : Lb} {r : Rp Op} (a : Nat) (p : Nat) (w : World) (h : RV i c w p r) (hl : LI r) (ha : r.bs ≤ a ∧ a ≤ r.ls) :
    Calls Tryz.prog 49 #[.pointer (some ⟨p, 0, none⟩), .int .i64 (a : Int)] w fun e w' => e = .returned (.tuple #[]) ∧ ∃ c', Lx w c c' ∧ Fr (fun l => l = 10 + 10 * i ∨ l = 14 + 10 * i) c w w' ∧ RV i c' w' p (save r a) := by
  obtain ⟨hlp, lv, hv, xv, sv, uv, hbp, hrp⟩ := h
  obtain ⟨la, lc, el⟩ := hrp.lg.slice
  subst el
  have HH := Lib.hid (And.intro hlp (And.intro hbp (And.intro hrp (And.intro hl ha))))
  have hcs := hbp
  unfold rpC at hcs
  have y0 := hcs.cell 0 rfl
  have y1 := hcs.cell 1 rfl
  have y2 := hcs.cell 2 rfl
  have y3 := hcs.cell 3 rfl
  have y4 := hcs.cell 4 rfl
  have y5 := hcs.cell 5 rfl
  have y6 := hcs.cell 6 rfl
  have y7 := hcs.cell 7 rfl
  have y8 := hcs.cell 8 rfl
  have y9 := hcs.cell 9 rfl
  have hpl := hbp.lt
  clear hlp hbp hrp hl ha hcs
  go_enter Tryz.func49, Tryz.ntmps49
  go_upto_region 1 with fail
  obtain ⟨w1, hw1⟩ : ∃ w1, w1 = w.alloc (.cells #[.int .i64 (r.id : Int), .int .i64 (r.n : Int), .int .i64 (r.st : Int), .int .i64 (r.vw : Int), .int .i64 (r.nr : Int), .int .i64 (r.bs : Int), .int .i64 (r.td : Int), .int .i64 (r.cm : Int), .int .i64 (r.sb : Int), .int .i64 (r.ls : Int)] 39) := ⟨_, rfl⟩
  obtain ⟨b1, hb1⟩ : ∃ b1, b1 = w.heap.size := ⟨_, rfl⟩
  have HB1 : Hid (Below w.heap.size w w1) := Lib.hid (by rw [hw1]; exact (Below.refl _ _).alloc (Nat.le_refl _) _)
  have HS1 : Hid (Blk w1 b1 39 [.int .i64 (r.id : Int), .int .i64 (r.n : Int), .int .i64 (r.st : Int), .int .i64 (r.vw : Int), .int .i64 (r.nr : Int), .int .i64 (r.bs : Int), .int .i64 (r.td : Int), .int .i64 (r.cm : Int), .int .i64 (r.sb : Int), .int .i64 (r.ls : Int)]) := Lib.hid (by rw [hw1, hb1]; exact Blk.new w 39 _)
  have HP1 := Lib.hid (HH.out.2.1.below HB1.out HH.out.2.1.lt)
  have HR1 := Lib.hid (HH.out.2.2.1.below (Lx.refl w c) HB1.out)
  rw [← hw1, ← hb1]
  clear y0 y1 y2 y3 y4 y5 y6 y7 y8 y9 hw1 hb1
  have hli := HH.out.2.2.2.1
  have hra := HH.out.2.2.2.2
  have hl9 : r.log.length ≤ 1000000 := hli.lo.1
  obtain ⟨k, hk⟩ : ∃ k, k = a - r.bs := ⟨_, rfl⟩
  have hkl : k ≤ r.log.length := by have := hli.ls; omega
  have hwr : IntKind.i64.wrap ((a : Int) - (r.bs : Int)) = (k : Int) := by
    have h1 := hli.lo.2
    have h2 : TM = 1099511627776 := rfl
    have h3 := hli.ls
    rw [IntWalk.i64_in _ (by omega)]; omega
  have HSL := HR1.out.lg.sl.back (opE_ok 1) rfl k hkl
  obtain ⟨oa, hoa⟩ : ∃ oa, oa = (if lc = k then la else la.map (·.add (k * 16))) := ⟨_, rfl⟩
  rw [show (opE 1).sz = 16 from rfl, ← hoa] at HSL
  have hsl : ∀ W, (Instr.slice 35 (.slice la r.log.length lc) (some (.int .i64 (k : Int))) none none).run Tryz.prog W = .ok (.slice oa (r.log.length - k) (lc - k)) W := fun W => by
    rw [hoa]
    exact slice_int W 35 la r.log.length lc k rfl (s := 16) (by kernel_rfl) hkl
  have hdl : (r.log.drop k).length = r.log.length - k := List.length_drop
  have HOWN := Lib.hid (fun W (hb : Below w1.heap.size w1 W) => own_any (r.log.drop k) _ W (HSL.fr (opE_ok 1) (Lx.refl _ _) (Fr.of_below (F := fun _ => False) hb) (fun _ _ h => h)) (by rw [hdl]; omega))
  have HK : Hid (a - r.bs = k ∧ r.saves.length ≤ 100000 ∧ (r.log.drop k).length ≤ 1048576) := Lib.hid ⟨hk.symm, Nat.le_trans hli.sv (by decide), by rw [hdl]; omega⟩
  clear HSL hoa hdl hk hli hra hkl hl9
  refine wp_region_K (fun W => W.cell? ⟨b1, 3, none⟩ = some (.int .i64 (r.vw : Int)) ∧ W.cell? ⟨b1, 5, none⟩ = some (.int .i64 (r.bs : Int)) ∧ W.cell? ⟨b1, 8, none⟩ = some (.int .i64 (r.sb : Int)) ∧ W.cell? ⟨p, 14, none⟩ = some sv ∧ W.cell? ⟨p, 10, none⟩ = some (.slice la r.log.length lc)) 22 (by kernel_rfl) ?_ (fun hHeld1 => ?_)
  · exact ⟨HS1.out.cell 3 rfl, HS1.out.cell 5 rfl, HS1.out.cell 8 rfl, HP1.out.cell 14 rfl, HP1.out.cell 10 rfl⟩
  refine wpAnyK_takeP (i := 0) (oi := ?oi1) (v := ?v1) ?hi1 (by kernel_rfl) (by kernel_rfl) (by kernel_rfl) (by kernel_rfl) ?hq1 ?hy1 (by assumption) ?rest1
  case hi1 => (simp only [List.getElem?_toArray, List.getElem?_cons_succ, List.getElem?_cons_zero]; rfl)
  case hq1 => exact fun _ _ _ h => h
  case hy1 => (refine Or.inl ⟨by rfl, ?_⟩; intro W hSw; go_simp; (try with_reducible rfl))
  try simp only [Act.put, List.setIfInBounds_toArray, List.set_cons_zero, List.set_cons_succ]
  refine wpAnyK_take (i := 1) (n := 12) (oi := ?oi2) (v := ?v2) ?hi2 (by kernel_rfl) (by kernel_rfl) (by kernel_rfl) (by kernel_rfl) ?hq2 ?hy2 (by assumption) ?rest2
  case hi2 => (simp only [List.getElem?_toArray, List.getElem?_cons_succ, List.getElem?_cons_zero]; rfl)
  case hq2 => exact fun _ _ _ h => h
  case hy2 => (refine Or.inl ⟨by rfl, ?_⟩; intro W hSw; (try dsimp only at hSw); skip; go_simp; (try with_reducible rfl))
  try simp only [Act.put, List.setIfInBounds_toArray, List.set_cons_zero, List.set_cons_succ]
  refine wpAnyK_take (i := 2) (n := 12) (oi := ?oi3) (v := ?v3) ?hi3 (by kernel_rfl) (by kernel_rfl) (by kernel_rfl) (by kernel_rfl) ?hq3 ?hy3 (by assumption) ?rest3
  case hi3 => (simp only [List.getElem?_toArray, List.getElem?_cons_succ, List.getElem?_cons_zero]; rfl)
  case hq3 => exact fun _ _ _ h => h
  case hy3 => (refine Or.inl ⟨by rfl, ?_⟩; intro W hSw; (try dsimp only at hSw); skip; go_simp; (try with_reducible rfl))
  try simp only [Act.put, List.setIfInBounds_toArray, List.set_cons_zero, List.set_cons_succ]
  refine wpAnyK_take (i := 3) (n := 12) (oi := ?oi4) (v := ?v4) ?hi4 (by kernel_rfl) (by kernel_rfl) (by kernel_rfl) (by kernel_rfl) ?hq4 ?hy4 (by assumption) ?rest4
  case hi4 => (simp only [List.getElem?_toArray, List.getElem?_cons_succ, List.getElem?_cons_zero]; rfl)
  case hq4 => exact fun _ _ _ h => h
  case hy4 => (refine Or.inl ⟨by rfl, ?_⟩; intro W hSw; (try dsimp only at hSw); skip; go_simp; (try with_reducible rfl))
  try simp only [Act.put, List.setIfInBounds_toArray, List.set_cons_zero, List.set_cons_succ]
  refine wpAnyK_take (i := 4) (n := 12) (oi := ?oi5) (v := ?v5) ?hi5 (by kernel_rfl) (by kernel_rfl) (by kernel_rfl) (by kernel_rfl) ?hq5 ?hy5 (by assumption) ?rest5
  case hi5 => (simp only [List.getElem?_toArray, List.getElem?_cons_succ, List.getElem?_cons_zero]; rfl)
  case hq5 => exact fun _ _ _ h => h
  case hy5 => (refine Or.inl ⟨by rfl, ?_⟩; intro W hSw; (try dsimp only at hSw); skip; go_simp; (try with_reducible rfl))
  try simp only [Act.put, List.setIfInBounds_toArray, List.set_cons_zero, List.set_cons_succ]
  refine wpAnyK_take (i := 5) (n := 12) (oi := ?oi6) (v := ?v6) ?hi6 (by kernel_rfl) (by kernel_rfl) (by kernel_rfl) (by kernel_rfl) ?hq6 ?hy6 (by assumption) ?rest6
  case hi6 => (simp only [List.getElem?_toArray, List.getElem?_cons_succ, List.getElem?_cons_zero]; rfl)
  case hq6 => exact fun _ _ _ h => h
  case hy6 => (refine Or.inl ⟨by rfl, ?_⟩; intro W hSw; (try dsimp only at hSw); skip; go_simp; (try with_reducible rfl))
  try simp only [Act.put, List.setIfInBounds_toArray, List.set_cons_zero, List.set_cons_succ]
  refine wpAnyK_take (i := 6) (n := 12) (oi := ?oi7) (v := ?v7) ?hi7 (by kernel_rfl) (by kernel_rfl) (by kernel_rfl) (by kernel_rfl) ?hq7 ?hy7 (by assumption) ?rest7
  case hi7 => (simp only [List.getElem?_toArray, List.getElem?_cons_succ, List.getElem?_cons_zero]; rfl)
  case hq7 => exact fun _ _ _ h => h
  case hy7 => (refine Or.inl ⟨by rfl, ?_⟩; intro W hSw; (try dsimp only at hSw); skip; go_simp; (try with_reducible rfl))
  try simp only [Act.put, List.setIfInBounds_toArray, List.set_cons_zero, List.set_cons_succ]
  refine wpAnyK_take (i := 7) (n := 12) (oi := ?oi8) (v := ?v8) ?hi8 (by kernel_rfl) (by kernel_rfl) (by kernel_rfl) (by kernel_rfl) ?hq8 ?hy8 (by assumption) ?rest8
  case hi8 => (simp only [List.getElem?_toArray, List.getElem?_cons_succ, List.getElem?_cons_zero]; rfl)
  case hq8 => exact fun _ _ _ h => h
  case hy8 => (refine Or.inl ⟨by rfl, ?_⟩; intro W hSw; (try dsimp only at hSw); skip; go_simp; (try with_reducible rfl))
  try simp only [Act.put, List.setIfInBounds_toArray, List.set_cons_zero, List.set_cons_succ]
  refine wpAnyK_take (i := 8) (n := 12) (oi := ?oi9) (v := ?v9) ?hi9 (by kernel_rfl) (by kernel_rfl) (by kernel_rfl) (by kernel_rfl) ?hq9 ?hy9 (by assumption) ?rest9
  case hi9 => (simp only [List.getElem?_toArray, List.getElem?_cons_succ, List.getElem?_cons_zero]; rfl)
  case hq9 => exact fun _ _ _ h => h
  case hy9 => (refine Or.inl ⟨by rfl, ?_⟩; intro W hSw; (try dsimp only at hSw); skip; go_simp; (try with_reducible rfl))
  try simp only [Act.put, List.setIfInBounds_toArray, List.set_cons_zero, List.set_cons_succ]
  refine wpAnyK_take (i := 9) (n := 12) (oi := ?oi10) (v := ?v10) ?hi10 (by kernel_rfl) (by kernel_rfl) (by kernel_rfl) (by kernel_rfl) ?hq10 ?hy10 (by assumption) ?rest10
  case hi10 => (simp only [List.getElem?_toArray, List.getElem?_cons_succ, List.getElem?_cons_zero]; rfl)
  case hq10 => exact fun _ _ _ h => h
  case hy10 => (refine Or.inl ⟨by rfl, ?_⟩; intro W hSw; (try dsimp only at hSw); skip; go_simp; (try with_reducible rfl))
  try simp only [Act.put, List.setIfInBounds_toArray, List.set_cons_zero, List.set_cons_succ]
  refine wpAnyK_take (i := 10) (n := 12) (oi := ?oi11) (v := ?v11) ?hi11 (by kernel_rfl) (by kernel_rfl) (by kernel_rfl) (by kernel_rfl) ?hq11 ?hy11 (by assumption) ?rest11
  case hi11 => (simp only [List.getElem?_toArray, List.getElem?_cons_succ, List.getElem?_cons_zero]; rfl)
  case hq11 => exact fun _ _ _ h => h
  case hy11 => (refine Or.inl ⟨by rfl, ?_⟩; intro W hSw; (try dsimp only at hSw); skip; go_simp; (try with_reducible rfl))
  try simp only [Act.put, List.setIfInBounds_toArray, List.set_cons_zero, List.set_cons_succ]
  refine wpAnyK_take (i := 11) (n := 12) (oi := ?oi12) (v := ?v12) ?hi12 (by kernel_rfl) (by kernel_rfl) (by kernel_rfl) (by kernel_rfl) ?hq12 ?hy12 (by assumption) ?rest12
  case hi12 => (simp only [List.getElem?_toArray, List.getElem?_cons_succ, List.getElem?_cons_zero]; rfl)
  case hq12 => exact fun _ _ _ h => h
  case hy12 => (refine Or.inl ⟨by rfl, ?_⟩; intro W hSw; (try dsimp only at hSw); skip; go_simp; (try with_reducible rfl))
  try simp only [Act.put, List.setIfInBounds_toArray, List.set_cons_zero, List.set_cons_succ]
  refine wpAnyK_take (i := 12) (n := 12) (oi := ?oi13) (v := ?v13) ?hi13 (by kernel_rfl) (by kernel_rfl) (by kernel_rfl) (by kernel_rfl) ?hq13 ?hy13 (by assumption) ?rest13
  case hi13 => (simp only [List.getElem?_toArray, List.getElem?_cons_succ, List.getElem?_cons_zero]; rfl)
  case hq13 => exact fun _ _ _ h => h
  case hy13 => (refine Or.inl ⟨by rfl, ?_⟩; intro W hSw; (try dsimp only at hSw); skip; go_simp; (try with_reducible rfl))
  try simp only [Act.put, List.setIfInBounds_toArray, List.set_cons_zero, List.set_cons_succ]
  refine wpAnyK_take (i := 13) (n := 12) (oi := ?oi14) (v := ?v14) ?hi14 (by kernel_rfl) (by kernel_rfl) (by kernel_rfl) (by kernel_rfl) ?hq14 ?hy14 (by assumption) ?rest14
  case hi14 => (simp only [List.getElem?_toArray, List.getElem?_cons_succ, List.getElem?_cons_zero]; rfl)
  case hq14 => exact fun _ _ _ h => h
  case hy14 => (refine Or.inl ⟨by rfl, ?_⟩; intro W hSw; (try dsimp only at hSw); skip; go_simp; (try with_reducible rfl))
  try simp only [Act.put, List.setIfInBounds_toArray, List.set_cons_zero, List.set_cons_succ]
  refine wpAnyK_take (i := 14) (n := 12) (oi := ?oi15) (v := ?v15) ?hi15 (by kernel_rfl) (by kernel_rfl) (by kernel_rfl) (by kernel_rfl) ?hq15 ?hy15 (by assumption) ?rest15
  case hi15 => (simp only [List.getElem?_toArray, List.getElem?_cons_succ, List.getElem?_cons_zero]; rfl)
  case hq15 => exact fun _ _ _ h => h
  case hy15 => (refine Or.inl ⟨by rfl, ?_⟩; intro W hSw; (try dsimp only at hSw); skip; go_simp; (try with_reducible rfl))
  try simp only [Act.put, List.setIfInBounds_toArray, List.set_cons_zero, List.set_cons_succ]
  refine wpAnyK_take (i := 15) (n := 12) (oi := ?oi16) (v := ?v16) ?hi16 (by kernel_rfl) (by kernel_rfl) (by kernel_rfl) (by kernel_rfl) ?hq16 ?hy16 (by assumption) ?rest16
  case hi16 => (simp only [List.getElem?_toArray, List.getElem?_cons_succ, List.getElem?_cons_zero]; rfl)
  case hq16 => exact fun _ _ _ h => h
  case hy16 => (refine Or.inl ⟨by rfl, ?_⟩; intro W hSw; (try dsimp only at hSw); skip; go_simp; (try with_reducible rfl))
  try simp only [Act.put, List.setIfInBounds_toArray, List.set_cons_zero, List.set_cons_succ]
  refine wpAnyK_take (i := 16) (n := 12) (oi := ?oi17) (v := ?v17) ?hi17 (by kernel_rfl) (by kernel_rfl) (by kernel_rfl) (by kernel_rfl) ?hq17 ?hy17 (by assumption) ?rest17
  case hi17 => (simp only [List.getElem?_toArray, List.getElem?_cons_succ, List.getElem?_cons_zero]; rfl)
  case hq17 => exact fun _ _ _ h => h
  case hy17 => (refine Or.inl ⟨by rfl, ?_⟩; intro W hSw; (try dsimp only at hSw); skip; go_simp; (try with_reducible rfl))
  try simp only [Act.put, List.setIfInBounds_toArray, List.set_cons_zero, List.set_cons_succ]
  refine wpAnyK_take (i := 18) (n := 12) (oi := ?oi18) (v := ?v18) ?hi18 (by kernel_rfl) (by kernel_rfl) (by kernel_rfl) (by kernel_rfl) ?hq18 ?hy18 (by assumption) ?rest18
  case hi18 => (simp only [List.getElem?_toArray, List.getElem?_cons_succ, List.getElem?_cons_zero]; rfl)
  case hq18 => exact fun _ _ _ h => h
  case hy18 => (refine Or.inl ⟨by rfl, ?_⟩; intro W hSw; (try dsimp only at hSw); skip; go_simp; (try with_reducible rfl))
  try simp only [Act.put, List.setIfInBounds_toArray, List.set_cons_zero, List.set_cons_succ]
  refine wpAnyK_take (i := 19) (n := 12) (oi := ?oi19) (v := ?v19) ?hi19 (by kernel_rfl) (by kernel_rfl) (by kernel_rfl) (by kernel_rfl) ?hq19 ?hy19 (by assumption) ?rest19
  case hi19 => (simp only [List.getElem?_toArray, List.getElem?_cons_succ, List.getElem?_cons_zero]; rfl)
  case hq19 => exact fun _ _ _ h => h
  case hy19 => (refine Or.inl ⟨by rfl, ?_⟩; intro W hSw; (try dsimp only at hSw); skip; go_simp; (try with_reducible rfl))
  try simp only [Act.put, List.setIfInBounds_toArray, List.set_cons_zero, List.set_cons_succ]
  refine wpAnyK_ready (rs := [17]) (by kernel_rfl) (by simp) ?_
  refine AllReadyK.cons (o := ?oi20) ?hi20 (fun K hK => ?hs20) AllReadyK.nil
  case hi20 => (simp only [List.getElem?_toArray, List.getElem?_cons_succ, List.getElem?_cons_zero]; rfl)
  go_simp
  refine (HOWN.out _ (Below.refl _ _).drew).mono ?_
  rintro e w2 ⟨v2, rfl, hnew, hb2⟩
  have HB2 := Lib.hid ((Below.refl w1.heap.size w1).drew.trans hb2)
  have HNW := Lib.hid hnew
  have HS2 := Lib.hid (HS1.out.below HB2.out HS1.out.lt)
  have HP2 := Lib.hid (HP1.out.below HB2.out HP1.out.lt)
  obtain ⟨va2, vc2, ev2⟩ := hnew.slice
  subst ev2
  clear hnew hb2
  go_wp2_with fail
  refine hK.out _ _ ?_ (fun hHeld2 => ?_)
  · exact ⟨HS2.out.cell 3 rfl, HS2.out.cell 5 rfl, HS2.out.cell 8 rfl, HP2.out.cell 14 rfl, HP2.out.cell 10 rfl⟩
  clear hK
  try simp only [Act.put, List.setIfInBounds_toArray, List.set_cons_zero, List.set_cons_succ]
  refine wpAnyK_take (i := 20) (n := 12) (oi := ?oi21) (v := ?v21) ?hi21 (by kernel_rfl) (by kernel_rfl) (by kernel_rfl) (by kernel_rfl) ?hq21 ?hy21 (by assumption) ?rest21
  case hi21 => (simp only [List.getElem?_toArray, List.getElem?_cons_succ, List.getElem?_cons_zero]; rfl)
  case hq21 => exact fun _ _ _ h => h
  case hy21 => (refine Or.inl ⟨by rfl, ?_⟩; intro W hSw; (try dsimp only at hSw); skip; go_simp; (try with_reducible rfl))
  try simp only [Act.put, List.setIfInBounds_toArray, List.set_cons_zero, List.set_cons_succ]
  refine wpAnyK_ready (rs := [21]) (by kernel_rfl) (by simp) ?_
  refine AllReadyK.cons (o := ?oi22) ?hi22 (fun K hK => ?hs22) AllReadyK.nil
  case hi22 => (simp only [List.getElem?_toArray, List.getElem?_cons_succ, List.getElem?_cons_zero]; rfl)
  go_simp
  refine hK.out _ _ ?_ (fun hHeld3 => ?_)
  · exact ⟨(HS2.out.alloc _).cell 3 rfl, (HS2.out.alloc _).cell 5 rfl, (HS2.out.alloc _).cell 8 rfl, (HP2.out.alloc _).cell 14 rfl, (HP2.out.alloc _).cell 10 rfl⟩
  clear hK
  try simp only [Act.put, List.setIfInBounds_toArray, List.set_cons_zero, List.set_cons_succ]
  refine wpAnyK_lasts [23, 24, 25] (by kernel_rfl) (by rfl) (by rfl) ?_
  simp only [List.filterMap_cons, List.filterMap_nil, List.getElem?_toArray, List.getElem?_cons_succ, List.getElem?_cons_zero]
  have hrw := HNW.out.row c 2 2
  have hR2 := HR1.out.below hrw.1 HB2.out
  have hba : Below w2.heap.size w2 (w2.alloc (.cells #[.bool true, .int .i64 (r.vw : Int), .int .i64 (a : Int), .slice va2 (r.log.drop k).length vc2, .int .i64 (r.sb : Int)] 51)) := (Below.refl _ _).alloc (Nat.le_refl _) _
  have happ := RV.app_sv (W := w2.alloc (.cells #[.bool true, .int .i64 (r.vw : Int), .int .i64 (a : Int), .slice va2 (r.log.drop k).length vc2, .int .i64 (r.sb : Int)] 51)) ((hrw.1 p HP1.out.lt).trans HH.out.1) (HP2.out.alloc _) (hR2.below (Lx.refl _ _) hba) (xs := .slice (some ⟨w2.heap.size, 0, none⟩) 1 1) (m := [⟨true, r.vw, a, r.log.drop k, r.sb⟩]) ⟨[.slice va2 (r.log.drop k).length vc2], Inn.one (E := svE 2) (show SvI 2 _ _ _ (⟨true, r.vw, a, r.log.drop k, r.sb⟩ : Sv Op) from ⟨hrw.2.sl.fr (opE_ok 2) (Lx.refl _ _) (Fr.of_below (F := fun _ => False) hba) (fun _ _ h => h), HK.out.2.2⟩), by rw [flat_single]; exact rd_new w2 5 1 _ 51 rfl⟩ (by have := HK.out.2.1; simp only [List.length_cons, List.length_nil]; omega)
  obtain ⟨v', w5, hrun, ⟨a5, c5, e5⟩, g3, g4, c', hx5, hf5, hv5, -⟩ := happ
  subst e5
  have hdl2 : (r.log.drop k).length = r.log.length - k := List.length_drop
  rw [hdl2] at hrun
  have HRUN := Lib.hid hrun
  have HD : Hid (∃ c', Lx w c c' ∧ Fr (fun l => l = 10 + 10 * i ∨ l = 14 + 10 * i) c w (w5.setCell ⟨p, 14, none⟩ (.slice a5 (r.saves.length + [(⟨true, r.vw, a, r.log.drop k, r.sb⟩ : Sv Op)].length) c5)) ∧ RV i c' (w5.setCell ⟨p, 14, none⟩ (.slice a5 (r.saves.length + [(⟨true, r.vw, a, r.log.drop k, r.sb⟩ : Sv Op)].length) c5)) p (save r a)) := Lib.hid (by
    have h1 : Below w.heap.size w (w2.alloc (.cells #[.bool true, .int .i64 (r.vw : Int), .int .i64 (a : Int), .slice va2 (r.log.drop k).length vc2, .int .i64 (r.sb : Int)] 51)) := HB1.out.trans ((HB2.out.trans (hba.mono HB2.out.size)).mono HB1.out.size)
    have h2 : Lx w c (c.new w1.drew.heap.size (.slice va2 (r.log.drop k).length vc2) 2 2) := fun j hj => hrw.1 j (Nat.lt_of_lt_of_le hj HB1.out.size)
    refine ⟨c', h2.trans hx5 h1.size, (Fr.of_below h1).trans h2 hf5, ?_⟩
    have h3 : save r a = { r with saves := r.saves ++ [⟨true, r.vw, a, r.log.drop k, r.sb⟩] } := by unfold save; rw [HK.out.1]
    rw [h3]
    exact hv5)
  clear hrun hba hR2 hrw hdl2 hx5 hf5 hv5 hHeld1 hHeld2 hHeld3 hwr hsl
  refine wpList_execA rfl (execA (.tmp 13) (.tmp 30) 42 rfl rfl rfl HRUN.out) ?_
  try simp only [Act.put, List.setIfInBounds_toArray, List.set_cons_zero, List.set_cons_succ]
  refine wpList_step fun K hK => ?_
  rw [if_pos (by rfl)]
  go_simp
  refine hK _ _ ?_
  clear hK
  try simp only [Act.put, List.setIfInBounds_toArray, List.set_cons_zero, List.set_cons_succ]
  refine wpList_step fun K hK => ?_
  rw [if_pos (by rfl)]
  go_simp
  refine hK _ _ ?_
  clear hK
  try simp only [Act.put, List.setIfInBounds_toArray, List.set_cons_zero, List.set_cons_succ]
  refine wpList_step fun K hK => ?_
  rw [if_pos (by rfl)]
  go_simp
  refine hK _ _ ?_
  clear hK
  try simp only [Act.put, List.setIfInBounds_toArray, List.set_cons_zero, List.set_cons_succ]
  go_wp2_with fail
  refine bodyPost_end (results_none rfl _ _ _) rfl ?_
  exact ⟨rfl, HD.out⟩
end Go.Proofs.YtdmjegelcdghlaaGreat.Vw
