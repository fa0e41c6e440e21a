/-
  Chapter 22: primary, all, send.
  (Texts put together: Dg Dh Dm.)
-/
import Derived.Test.YtdmjegelcdghlaaGreatGDd
import Derived.Test.YtdmjegelcdghlaaGreatGQs
import Derived.Test.YtdmjegelcdghlaaGreatGUw
import Derived.Test.YtdmjegelcdghlaaGreatGUx
import Derived.Deep.QuietTactic
import Derived.BigQuiet
import Derived.Deep.AppendLies
import Derived.Deep.RegionLaw
import Derived.Test.YtdmjegelcdghlaaGreatGDa
namespace Go.Proofs.YtdmjegelcdghlaaGreat.Vw
open Go.RowKit Go.Maps
set_option linter.unusedVariables false
set_option linter.unusedSimpArgs false
set_option maxRecDepth 100000

theorem prim_nat (v n : Nat) (h : 1 ≤ n ∧ n ≤ 7) : Qs.prim (v : Int) (n : Int) = ((v % n : Nat) : Int) := by
  unfold Qs.prim
  rw [if_neg (by omega)]
  omega
set_option maxHeartbeats 2000000 in
theorem primary_any {r : Rp Op} {lv hv ov sv uv : Value} (p : Nat) (w : World) (h : Blk w p 94 (rpC r lv hv ov sv uv)) (hn : 1 ≤ r.n ∧ r.n ≤ 7) :
    Calls Tryz.prog 58 #[.pointer (some ⟨p, 0, none⟩)] w fun e w' => e = .returned (.int .i64 (prm r : Int)) ∧ ∃ k, w' = w.drewN k := by
  have y1 := h.cell 1 rfl
  have y3 := h.cell 3 rfl
  have HP := Lib.hid (fun W => prim_any (r.vw : Int) (r.n : Int) W)
  rw [prim_nat r.vw r.n hn] at HP
  clear h hn
  go_enter Tryz.func58, Tryz.ntmps58
  go_wp2_with fail
  go_quiet ((go_at_call 87; exact Calls.quiet_of_same ((HP.out _).mono fun e w' ⟨h1, h2⟩ => ⟨h1, h2.symm⟩)))
  go_wp2_with fail
  go_ret
  exact ⟨rfl, _, rfl⟩
theorem below_drewN' (w : World) (k : Nat) : Below w.heap.size w (w.drewN k) := below_drewN (Below.refl _ _) k
def natV (k : Nat) : Value := .int .i64 (k : Int)
theorem rd_new (w : World) (sz n : Nat) (vs : List Value) (e : TypeId) (h : vs.length = n * sz) : Rd (w.alloc (.cells vs.toArray e)) sz (.slice (some ⟨w.heap.size, 0, none⟩) n n) n vs := by
  refine ⟨h, .inr ⟨w.heap.size, 0, n, rfl, Nat.le_refl _, fun j u hj => ?_⟩⟩
  have := cells_new w vs e j u hj
  rw [Addr.add_lit] at this
  exact this
theorem all_any {r : Rp Op} {lv hv ov sv uv : Value} (p : Nat) (w : World) (h : Blk w p 94 (rpC r lv hv ov sv uv)) (hn : r.n ≤ 1000) :
    Calls Tryz.prog 45 #[.pointer (some ⟨p, 0, none⟩)] w fun e w' => ∃ v, e = .returned v ∧ w'.ownsRow w.heap.size 3 1 v r.n ((List.range r.n).map natV) ∧ Below w.heap.size w w' := by
  have y1 := h.cell 1 rfl
  obtain ⟨i0, hi, hz0, hz1, hz2⟩ := info_parts int_row
  have HI := Lib.hid (And.intro hi (And.intro hz0 (And.intro hz1 hz2)))
  have HN := Lib.hid hn
  clear h hi hz0 hz1 hz2 hn
  go_enter Tryz.func45, Tryz.ntmps45
  go_wp2_with fail
  go_loopw [3, 10] (fun v k wr => ∃ j : Nat, k = .int .i64 (j : Int) ∧ j ≤ r.n ∧ wr.ownsRow w.heap.size 3 1 v j ((List.range j).map natV) ∧ Below w.heap.size w wr) (fun _ k _ => r.n - (intOf k).toNat)
  case atStart => exact ⟨0, rfl, Nat.zero_le _, World.ownsRow_nil _ _ _ _, Below.refl _ _⟩
  case round =>
    obtain ⟨j, rfl, hj, ho, hb⟩ := hrel
    by_cases hjn : j < r.n
    case neg =>
      have t1 : ¬ (j : Int) < (r.n : Int) := by omega
      have e : j = r.n := by omega
      have HO : Hid (wr.ownsRow w.heap.size 3 1 u3 r.n ((List.range r.n).map natV) ∧ Below w.heap.size w wr) := Lib.hid (by rw [← e]; exact ⟨ho, hb⟩)
      clear ho hb e
      go_wp2_with fail
      go_ret
      exact ⟨_, rfl, HO.out⟩
    case pos =>
    have t1 : (j : Int) < (r.n : Int) := by omega
    obtain ⟨v', w3, hrun, ho3, hg3, hbk3⟩ := app_run (P := Tryz.prog) (wr.alloc (.cells #[natV j] 3)) 67 67 3 w.heap.size i0 (.int .i64 0) 1 8 Tryz.underlying67 HI.out.1 HI.out.2.1 HI.out.2.2.1 HI.out.2.2.2 rfl (by decide) u3 j ((List.range j).map natV) (ho.alloc _) (.slice (some ⟨wr.heap.size, 0, none⟩) 1 1) 1 [natV j] (rd_new wr 1 1 [natV j] 3 rfl) (by intro u hu; simp at hu; subst hu; rfl) (by have := HN.out; unfold maxLen; omega) (by have := HN.out; omega) (by rw [World.size_alloc]; have := hb.size; omega)
    have HRUN := Lib.hid hrun
    have HS : Hid (w3.ownsRow w.heap.size 3 1 v' (j + 1) ((List.range (j + 1)).map natV) ∧ Below w.heap.size w w3) := Lib.hid ⟨by rw [List.range_succ, List.map_append]; exact ho3, below_app hb hb.size hg3 fun k hk => (ho.lt k hk).1⟩
    obtain ⟨xa, xc, ex⟩ := (Rd.of_own ho).slice
    subst ex
    obtain ⟨xa', xc', ex⟩ := (Rd.of_own ho3).slice
    subst ex
    have hn9 := HN.out
    unfold natV at HRUN
    clear hrun ho3 hg3 hbk3 ho hb
    go_wp2_with (at_builtin; go_loud (refine wpList_execA rfl (execA (.tmp 13) (.tmp 15) 67 rfl rfl rfl HRUN.out) ?_))
    go_wp2_with fail
    go_roundw
    case rel => exact ⟨j + 1, by go_num, by omega, HS.out⟩
    case measure => simp [intOf]; omega
end Go.Proofs.YtdmjegelcdghlaaGreat.Vw
namespace Go.Proofs.YtdmjegelcdghlaaGreat.Vw
open Go.RowKit Go.Maps
set_option linter.unusedVariables false
set_option linter.unusedSimpArgs false
set_option maxRecDepth 100000

theorem OfR.keep {i : Nat} {c c' : Lb} {W W' : World} {ov : Value} {r : Rp Op} (h : OfR i c W ov r) (hc : Lx W c c') (hb : ∀ k, k < W.heap.size → c k = 1 ∨ c k = 13 + 10 * i → W'.heap[k]? = W.heap[k]?) : OfR i c' W' ov r := by
  rcases h with h1 | ⟨m, h1, h2, h3⟩
  · exact .inl h1
  · refine .inr ⟨m, h1, ?_, h3.keep hc (hb m h3.lt (.inr h2)) fun k hk hl => hb k hk (.inl hl)⟩
    rw [hc m h3.lt]; exact h2
theorem RP.lgK {i : Nat} {c c' : Lb} {W W' : World} {r : Rp Op} {lv hv ov sv uv : Value} (h : RP i c W r lv hv ov sv uv) (hc : Lx W c c') (hb : ∀ k, k < W.heap.size → c k = 1 ∨ c k = 11 + 10 * i → W'.heap[k]? = W.heap[k]?) : Row (opE 1) c' (11 + 10 * i) W' lv r.log := h.lg.keep (opE_ok 1) hc hb
theorem RP.hvK {i : Nat} {c c' : Lb} {W W' : World} {r : Rp Op} {lv hv ov sv uv : Value} (h : RP i c W r lv hv ov sv uv) (hc : Lx W c c') (hb : ∀ k, k < W.heap.size → c k = 12 + 10 * i → W'.heap[k]? = W.heap[k]?) : Row ntE c' (12 + 10 * i) W' hv r.hv := h.hv.keep ntE_ok hc fun k hk hl => by
  rcases hl with hl | hl
  · exact absurd hl fun h => h
  · exact hb k hk hl
theorem RP.svK {i : Nat} {c c' : Lb} {W W' : World} {r : Rp Op} {lv hv ov sv uv : Value} (h : RP i c W r lv hv ov sv uv) (hc : Lx W c c') (hb : ∀ k, k < W.heap.size → c k = 2 ∨ c k = 14 + 10 * i → W'.heap[k]? = W.heap[k]?) : Row (svE 2) c' (14 + 10 * i) W' sv r.saves := h.sv.keep (svE_ok 2) hc hb
theorem RP.ouK {i : Nat} {c c' : Lb} {W W' : World} {r : Rp Op} {lv hv ov sv uv : Value} (h : RP i c W r lv hv ov sv uv) (hc : Lx W c c') (hb : ∀ k, k < W.heap.size → c k = 3 ∨ c k = 15 + 10 * i → W'.heap[k]? = W.heap[k]?) : Row (sdE 3) c' (15 + 10 * i) W' uv r.out := h.ou.keep (sdE_ok 3) hc hb
def Gi (i : Nat) : Nat → Prop := fun k => k = 10 + 10 * i ∨ k = 15 + 10 * i
def msV (kd fr vw nr ao : Int) (ov : Value) (cm sb ls : Int) : Value := .agg #[.int .i64 kd, .int .i64 fr, .int .i64 vw, .int .i64 nr, .int .i64 ao, ov, .int .i64 cm, .int .i64 sb, .int .i64 ls]
structure SN (i : Nat) (c : Lb) (w : World) (p b : Nat) (r q : Rp Op) (m : Ms Op) (ov : Value) (wr : World) : Prop where
  ex : ∃ c', Lx w c c' ∧ Fr (Gi i) c w wr ∧ RV i c' wr p q ∧ c' b = 1
  bk : Blk wr b 37 (msC { m with fr := r.id, vw := r.vw } ov)
  hb : w.heap.size ≤ b
  id : q.id = r.id ∧ q.vw = r.vw
theorem upd_ne' {α : Type} (f : Nat → α) {i j : Nat} (a : α) (h : j ≠ i) : upd f i a j = f j := by unfold upd; rw [if_neg h]
theorem set_heap_ne (W : World) (b j k : Nat) (v : Value) (h : k ≠ b) : (W.setCell ⟨b, j, none⟩ v).heap[k]? = W.heap[k]? := Below.heap_setCell _ _ _ _ h
theorem set_size (W : World) (p : Addr) (v : Value) : (W.setCell p v).heap.size = W.heap.size := by show (W.heap.modify _ _).size = _; rw [Array.size_modify]
theorem SN.step {i : Nat} {c : Lb} {w : World} {p b : Nat} {r q : Rp Op} {m : Ms Op} {ov : Value} {wr : World} (h : SN i c w p b r q m ov wr) {lo : Nat} (hm : SlR (opE 1) c lo w ov m.ops) (hlo : ¬ Gi i lo) (hml : m.ops.length ≤ 1048576) (k : Nat) {w2 : World} {v2 : Value}
    (hnew : NewO (wr.heap.size + 1) w2 v2 m.ops) (hb2 : Below (wr.heap.size + 1) (wr.alloc (.cells (msC { m with fr := r.id, vw := r.vw } ov).toArray 37)) w2) (hq : q.out.length ≤ 1000000) :
    ∃ (lv hv xv sv uv v' : Value) (w5 : World), Blk (w2.setCell ⟨wr.heap.size, 5, none⟩ v2) p 94 (rpC q lv hv xv sv uv) ∧ Blk (w2.setCell ⟨wr.heap.size, 5, none⟩ v2) wr.heap.size 37 (msC { m with fr := r.id, vw := r.vw } v2) ∧
      (Builtin.append_ #[44, 44] 44 #[uv, .slice (some ⟨(w2.setCell ⟨wr.heap.size, 5, none⟩ v2).heap.size, 0, none⟩) 1 1]).run Tryz.prog ((w2.setCell ⟨wr.heap.size, 5, none⟩ v2).alloc (.cells (sdC ⟨k, { m with fr := r.id, vw := r.vw }⟩ v2).toArray 53)).drew = .ok v' w5 ∧
      (∃ a cp, v' = .slice a (q.out.length + 1) cp) ∧ w5.cell? ⟨p, 15, none⟩ = some uv ∧ w5.frozen? ⟨p, 15, none⟩ = false ∧
      SN i c w p b r { q with out := q.out ++ [⟨k, { m with fr := r.id, vw := r.vw }⟩] } m ov (w5.setCell ⟨p, 15, none⟩ v') := by
  obtain ⟨⟨c1, hx1, hf1, hrv, hcb⟩, hblk, hbw, hid⟩ := h
  obtain ⟨hlp, lv, hv, xv, sv, uv, hbp, hrp⟩ := hrv
  generalize hM : ({ m with fr := r.id, vw := r.vw } : Ms Op) = M at *
  have hMo : M.ops = m.ops := by rw [← hM]
  have hb1 : Below wr.heap.size wr (wr.alloc (.cells (msC M ov).toArray 37)) := (Below.refl _ _).alloc (Nat.le_refl _) _
  have hs1 : (wr.alloc (.cells (msC M ov).toArray 37)).heap.size = wr.heap.size + 1 := World.size_alloc _ _
  have hb12 : Below wr.heap.size wr w2 := hb1.trans (hb2.mono (by omega))
  have hs2 : wr.heap.size + 1 ≤ w2.heap.size := by rw [← hs1]; exact hb2.size
  have hpl := hbp.lt
  have hbl := hblk.lt
  have hnew' : NewO (wr.alloc (.cells (msC M ov).toArray 37)).heap.size w2 v2 M.ops := by rw [hs1, hMo]; exact hnew
  obtain ⟨hl2, hrow2⟩ := hnew'.row (upd c1 wr.heap.size 1) 3 3
  generalize hc2 : (Lb.new (upd c1 wr.heap.size 1) (wr.alloc (.cells (msC M ov).toArray 37)).heap.size v2 3 3) = c2 at *
  have hl12 : Lx wr c1 c2 := fun k hk => (hl2 k (by rw [hs1]; omega)).trans (upd_ne' _ _ (by omega))
  have hc28 : c2 wr.heap.size = 1 := (hl2 _ (by rw [hs1]; omega)).trans (by unfold upd; rw [if_pos rfl])
  generalize hw3 : w2.setCell ⟨wr.heap.size, 5, none⟩ v2 = w3 at *
  have hs3 : w3.heap.size = w2.heap.size := by rw [← hw3]; exact set_size _ _ _
  have hh3 : ∀ k, k ≠ wr.heap.size → w3.heap[k]? = w2.heap[k]? := fun k hk => by rw [← hw3]; exact set_heap_ne _ _ _ _ _ hk
  have hb3 : Below wr.heap.size wr w3 := by rw [← hw3]; exact hb12.setCell (Nat.le_refl _) _
  have h8 : Blk w3 wr.heap.size 37 (msC M v2) := by
    have h1 : Blk w2 wr.heap.size 37 (msC M ov) := (hb2.block wr.heap.size (by omega)).trans (Blk.new wr 37 (msC M ov))
    rw [← hw3]
    exact h1.set 5 v2
  have hrow3 : Row (opE 3) c2 3 w3 v2 M.ops := hrow2.keep (opE_ok 3) (Lx.refl _ _) fun k hk hl => hh3 k fun e => by
    subst e
    rw [hc28] at hl
    rcases hl with hl | hl
    · exact absurd (show (1 : Nat) = 3 from hl) (by decide)
    · exact absurd hl (by decide)
  have hrp3 : RP i c2 w3 q lv hv xv sv uv := hrp.below hl12 hb3
  have hbp3 : Blk w3 p 94 (rpC q lv hv xv sv uv) := hbp.below hb3 hpl
  -- the new element in a row of one
  generalize hw4 : (w3.alloc (.cells (sdC ⟨k, M⟩ v2).toArray 53)).drew = w4 at *
  have hb4 : Below w3.heap.size w3 w4 := by rw [← hw4]; exact ((Below.refl w3.heap.size w3).alloc (Nat.le_refl _) _).drew
  have hrd4 : Rd w4 10 (.slice (some ⟨w3.heap.size, 0, none⟩) 1 1) 1 (sdC ⟨k, M⟩ v2) := by
    have h1 : Rd (w3.alloc (.cells (sdC ⟨k, M⟩ v2).toArray 53)).drew 10 (.slice (some ⟨w3.heap.size, 0, none⟩) 1 1) 1 (sdC ⟨k, M⟩ v2) := rd_new w3 10 1 (sdC ⟨k, M⟩ v2) 53 rfl
    rw [hw4] at h1
    exact h1
  have hin4 : Inn (sdE 3) c2 w4 [⟨k, M⟩] [v2] := ⟨rfl, fun j a u ha hu => by
    rcases j with _ | j
    · simp at ha hu
      subst ha hu
      have h1 : SlR (opE 3) c2 3 w4 v2 M.ops := (hrow3.keep (opE_ok 3) (Lx.refl _ _) fun k hk _ => hb4.block k hk).sl
      exact (⟨h1, by rw [hMo]; exact hml⟩ : SdI 3 c2 w4 v2 ⟨k, M⟩)
    · simp at ha⟩
  have hrp4 := hrp3.below (Lx.refl w3 c2) hb4
  obtain ⟨v', w5, hrun, hlx5, hrow5, hfr5, hbl5⟩ := hrp4.ou.app (t := 44) (ty := 44) (m := [⟨k, M⟩]) (sdE_ok 3) Tryz.underlying44 sd_row rfl ⟨[v2], hin4, by
      have : flat (sdE 3) [⟨k, M⟩] [v2] = sdC ⟨k, M⟩ v2 := by simp [flat, sdE]
      rw [this]; exact hrd4⟩ (fun e => by have : 15 + 10 * i = 3 := e; omega) (by simp only [List.length_cons, List.length_nil]; omega) (by simp only [List.length_cons, List.length_nil]; unfold maxLen; omega)
  have hp4 : p < w4.heap.size := Nat.lt_of_lt_of_le hbp3.lt hb4.size
  have hcp : c2 p = 10 + 10 * i := (hl12 p hpl).trans hlp
  have hbp5 : Blk w5 p 94 (rpC q lv hv xv sv uv) := (hfr5.block p hp4 fun e => by rw [hcp] at e; omega).trans (hbp3.below hb4 hbp3.lt)
  obtain ⟨va, vc, ev⟩ := hrow5.slice
  have hkeep : ∀ k, k < w4.heap.size → c2 k ≠ 15 + 10 * i → c2 k ≠ 10 + 10 * i → (w5.setCell ⟨p, 15, none⟩ v').heap[k]? = w4.heap[k]? := fun k hk h1 h2 => by
    rw [set_heap_ne _ _ _ _ _ (fun e => h2 (by rw [e]; exact hcp))]
    exact hfr5.block k hk h1
  have hs5 : (w5.setCell ⟨p, 15, none⟩ v').heap.size = w5.heap.size := set_size _ _ _
  have hlt4 : ∀ k, k < wr.heap.size → k < w4.heap.size := fun k hk => Nat.lt_of_lt_of_le hk (Nat.le_trans hb3.size hb4.size)
  refine ⟨lv, hv, xv, sv, uv, v', w5, hbp3, h8, hrun, ⟨va, vc, by rw [ev]; simp⟩, hbp5.cell 15 rfl, hbp5.frozen 15, ⟨c2.row v' (15 + 10 * i), ?_, ?_, ⟨?_, lv, hv, xv, sv, v', ?_, ?_⟩, ?_⟩, ?_, hbw, hid⟩
  · exact (hx1.trans hl12 hf1.size).trans hlx5 (Nat.le_trans hf1.size (Nat.le_trans hb3.size hb4.size))
  · have f1 : Fr (Gi i) c1 wr w4 := (Fr.of_below (F := Gi i) (c := c1) (hb3.trans (hb4.mono hb3.size)))
    have f2 : Fr (Gi i) c2 w4 w5 := hfr5.mono fun l hl => .inr hl
    have f3 : Fr (Gi i) c2 w4 (w5.setCell ⟨p, 15, none⟩ v') := f2.set _ _ fun _ => .inl hcp
    exact (hf1.trans hx1 f1).trans (hx1.trans hl12 hf1.size) f3
  · exact (hlx5 p hp4).trans hcp
  · have := hbp5.set 15 v'
    exact this
  · have hrp5 : ∀ k, k < w4.heap.size → (1 ≤ c2 k ∧ c2 k ≤ 3) ∨ (11 + 10 * i ≤ c2 k ∧ c2 k ≤ 14 + 10 * i) → (w5.setCell ⟨p, 15, none⟩ v').heap[k]? = w4.heap[k]? := fun k hk hl => hkeep k hk (by omega) (by omega)
    refine ⟨hrp4.lgK hlx5 fun k hk hl => hrp5 k hk (by omega), hrp4.hvK hlx5 fun k hk hl => hrp5 k hk (by omega), hrp4.of.keep hlx5 fun k hk hl => hrp5 k hk (by omega), hrp4.svK hlx5 fun k hk hl => hrp5 k hk (by omega), ?_⟩
    refine hrow5.keep (sdE_ok 3) (Lx.refl _ _) fun k hk hl => set_heap_ne _ _ _ _ _ fun e => ?_
    subst e
    have h1 : c2.row v' (15 + 10 * i) k = 10 + 10 * i := (hlx5 k hp4).trans hcp
    rw [h1] at hl
    rcases hl with hl | hl
    · have : 10 + 10 * i = 3 := hl
      omega
    · omega
  · refine (hlx5 b (hlt4 b hbl)).trans ((hl12 b hbl).trans hcb)
  · rw [hM]
    have h1 := hkeep b (hlt4 b hbl) (by rw [hl12 b hbl, hcb]; omega) (by rw [hl12 b hbl, hcb]; omega)
    exact h1.trans ((hb4.block b (Nat.lt_of_lt_of_le hbl hb3.size)).trans ((hb3.block b hbl).trans hblk))
theorem SN.below {i : Nat} {c : Lb} {w : World} {p b : Nat} {r q : Rp Op} {m : Ms Op} {ov : Value} {wr w' : World} (h : SN i c w p b r q m ov wr) (hb : Below wr.heap.size wr w') : SN i c w p b r q m ov w' := by
  obtain ⟨⟨c1, hx1, hf1, hrv, hcb⟩, hblk, hbw, hid⟩ := h
  exact ⟨⟨c1, hx1, hf1.trans hx1 (Fr.of_below hb), hrv.below (Lx.refl _ _) hb, hcb⟩, hblk.below hb hblk.lt, hbw, hid⟩
theorem snd1_id (m : Ms Op) (r : Rp Op) (k : Nat) : (snd1 m r k).id = r.id ∧ (snd1 m r k).vw = r.vw ∧ (snd1 m r k).out.length ≤ r.out.length + 1 := by
  unfold snd1
  split
  · exact ⟨rfl, rfl, by omega⟩
  · exact ⟨rfl, rfl, by simp⟩
theorem sndL_len (m : Ms Op) : ∀ (ks : List Nat) (r : Rp Op), (sndL m r ks).out.length ≤ r.out.length + ks.length := by
  intro ks
  induction ks with
  | nil => intro r; simp [sndL]
  | cons k ks ih =>
    intro r
    have h1 := ih (snd1 m r k)
    have h2 := (snd1_id m r k).2.2
    unfold sndL at h1 ⊢
    rw [List.foldl_cons, List.length_cons]
    omega
theorem sndL_snoc (m : Ms Op) (r : Rp Op) (ks : List Nat) (k : Nat) : sndL m r (ks ++ [k]) = snd1 m (sndL m r ks) k := by unfold sndL; rw [List.foldl_append]; rfl
theorem snd1_ne (m : Ms Op) {q r : Rp Op} {k : Nat} (hk : k ≠ r.id) (hq : q.id = r.id ∧ q.vw = r.vw) : snd1 m q k = { q with out := q.out ++ [⟨k, { m with fr := r.id, vw := r.vw }⟩] } := by
  unfold snd1
  rw [← hq.1, ← hq.2, if_neg (by rw [hq.1]; exact hk)]
theorem step_execA {P : Program} {ops : Array Oper} {o : Oper} {a : Act} {w w' : World} {v : Value} {K : Act → World → Prop} {Q : Exit → Act → World → Prop} {E : Prop} (hgd : o.guard = none) (hr : (execOp a.eval o).run P w = .ok (.value v) w') (h : K (a.put o.dst v) w') :
    if Region.wanted o (yielded ops a.tmps) = true then Oper.wp P o a w K Q else E := by
  have hw : Region.wanted o (yielded ops a.tmps) = true := by simp [Region.wanted, hgd]
  rw [if_pos hw]
  unfold Oper.wp
  simp only [hr]
  exact h
set_option maxHeartbeats 8000000 in
theorem send_any {i lo lt : Nat} {c : Lb} {r : Rp Op} (m : Ms Op) (fr vw : Int) (ks : List Nat) (ov tv : Value) (p : Nat) (w : World) (h : RV i c w p r) (hm : SlR (opE 1) c lo w ov m.ops) (hlo : ¬ Gi i lo) (hml : m.ops.length ≤ 1048576)
    (ht : SlR ntE c lt w tv ks) (hlt : ¬ Gi i lt) (hks : ks.length ≤ 1000) (hq : r.out.length ≤ 100000) :
    Calls Tryz.prog 44 #[.pointer (some ⟨p, 0, none⟩), msV m.kd fr vw m.nr m.ao ov m.cm m.sb m.ls, tv] w fun e w' => e = .returned (.tuple #[]) ∧ ∃ c', Lx w c c' ∧ Fr (Gi i) c w w' ∧ RV i c' w' p (sndL m r ks) := by
  obtain ⟨ta, tc, et⟩ := ht.slice
  subst et
  obtain ⟨oa, oc, eo⟩ := hm.slice
  subst eo
  obtain ⟨lv, hv, xv, sv, uv, hbp, hrp⟩ := h.ex
  have y0 := hbp.cell 0 rfl
  have y3 := hbp.cell 3 rfl
  have HH := Lib.hid (And.intro h (And.intro hm (And.intro hlo (And.intro hml (And.intro ht (And.intro hlt (And.intro hks hq)))))))
  have hpl := hbp.lt
  have HB0 := Lib.hid (Blk.new w 37 [.int .i64 (m.kd : Int), .int .i64 fr, .int .i64 vw, .int .i64 (m.nr : Int), .int .i64 (m.ao : Int), .slice oa m.ops.length oc, .int .i64 (m.cm : Int), .int .i64 (m.sb : Int), .int .i64 (m.ls : Int)])
  clear hrp h hm hlo hml ht hlt hks hq hbp
  unfold msV
  go_enter Tryz.func44, Tryz.ntmps44
  go_upto_region 1 with fail
  go_region
  have HST : Hid (SN i c w p w.heap.size r r m (.slice oa m.ops.length oc) (w.alloc (.cells #[.int .i64 (m.kd : Int), .int .i64 (r.id : Int), .int .i64 (r.vw : Int), .int .i64 (m.nr : Int), .int .i64 (m.ao : Int), .slice oa m.ops.length oc, .int .i64 (m.cm : Int), .int .i64 (m.sb : Int), .int .i64 (m.ls : Int)] 37)).drew) := Lib.hid (by
    have hb : Below w.heap.size w (w.alloc (.cells #[.int .i64 (m.kd : Int), .int .i64 (r.id : Int), .int .i64 (r.vw : Int), .int .i64 (m.nr : Int), .int .i64 (m.ao : Int), .slice oa m.ops.length oc, .int .i64 (m.cm : Int), .int .i64 (m.sb : Int), .int .i64 (m.ls : Int)] 37)).drew := ((Below.refl _ _).alloc (Nat.le_refl _) _).drew
    have hl : Lx w c (upd c w.heap.size 1) := fun k hk => upd_ne' _ _ (by omega)
    exact ⟨⟨upd c w.heap.size 1, hl, Fr.of_below hb, HH.out.1.below hl hb, by unfold upd; rw [if_pos rfl]⟩, (Blk.new w 37 _).drew, Nat.le_refl _, rfl, rfl⟩)
  clear y0 y3 HB0
  go_wp2_with fail
  generalize (w.alloc (.cells #[.int .i64 (m.kd : Int), .int .i64 (r.id : Int), .int .i64 (r.vw : Int), .int .i64 (m.nr : Int), .int .i64 (m.ao : Int), .slice oa m.ops.length oc, .int .i64 (m.cm : Int), .int .i64 (m.sb : Int), .int .i64 (m.ls : Int)] 37)).drew = W1 at *
  obtain ⟨b4, hb4⟩ : ∃ b4, b4 = w.heap.size := ⟨_, rfl⟩
  rw [← hb4] at HST ⊢
  clear hb4
  go_loopw [23] (fun k wr => ∃ j : Nat, k = .int .i64 (j : Int) ∧ j ≤ ks.length ∧ SN i c w p b4 r (sndL m r (ks.take j)) m (.slice oa m.ops.length oc) wr) (fun k _ => ks.length - (intOf k).toNat)
  case atStart => exact ⟨0, rfl, Nat.zero_le _, HST.out⟩
  case round =>
    obtain ⟨j, rfl, hj, hst⟩ := hrel
    by_cases hjn : j < ks.length
    case neg =>
      have t1 : ¬ (j : Int) < (ks.length : Int) := by omega
      have HO : Hid (∃ c', Lx w c c' ∧ Fr (Gi i) c w wr ∧ RV i c' wr p (sndL m r ks)) := Lib.hid (by
        obtain ⟨⟨c1, h1, h2, h3, _⟩, _⟩ := hst
        rw [List.take_of_length_le (by omega)] at h3
        exact ⟨c1, h1, h2, h3⟩)
      clear hst
      go_wp2_with fail
      refine bodyPost_end (results_none rfl _ _ _) rfl ?_
      exact ⟨rfl, HO.out⟩
    case pos =>
    have t1 : (j : Int) < (ks.length : Int) := by omega
    obtain ⟨k, hk⟩ : ∃ k, ks[j]? = some k := ⟨_, List.getElem?_eq_getElem hjn⟩
    have HTK : Hid (ks.take (j + 1) = ks.take j ++ [k]) := Lib.hid (by rw [List.take_succ_eq_append_getElem hjn, (List.getElem?_eq_some_iff.1 hk).2])
    obtain ⟨c1, hx1, hf1, hrv1, hcb1⟩ := hst.ex
    have hgt : ∀ l, ntE.lab l ∨ l = lt → ¬ Gi i l := fun l hl => hl.elim (fun h => absurd h fun h => h) fun h => h ▸ HH.out.2.2.2.2.2.1
    have hgs := (HH.out.2.2.2.2.1.fr ntE_ok hx1 hf1 hgt).get ntE_ok hk
    obtain ⟨tb, to', tcp, tu, et, -, htc⟩ := hgs
    cases et
    have yt := htc 0 (.int .i64 (k : Int)) rfl
    simp only [Nat.add_zero] at yt
    rw [show j * ntE.sz = j from Nat.mul_one j] at yt
    obtain ⟨lv1, hv1, xv1, sv1, uv1, hbp1, hrp1⟩ := hrv1.ex
    have y0 := hbp1.cell 0 rfl
    rw [hst.id.1] at y0
    have HS := Lib.hid hst
    have HL : Hid ((sndL m r (ks.take j)).out.length ≤ 1000000) := Lib.hid (by
      have h1 := sndL_len m (ks.take j) r
      have h2 := HH.out.2.2.2.2.2.2
      rw [List.length_take] at h1
      omega)
    have hks9 := HH.out.2.2.2.2.2.2.1
    clear htc hbp1 hrp1 hx1 hf1 hrv1 hcb1 hk hgt
    by_cases hke : k = r.id
    case pos =>
      have t2 : ((k : Int) != (r.id : Int)) = false := by rw [hke]; simp
      have t3 : decide ((k : Int) = (r.id : Int)) = true := by rw [hke]; simp
      have HN : Hid (SN i c w p b4 r (sndL m r (ks.take (j + 1))) m (.slice oa m.ops.length oc) wr) := Lib.hid (by
        rw [HTK.out, sndL_snoc]
        unfold snd1
        rw [if_pos (hke.trans HS.out.id.1.symm)]
        exact HS.out)
      clear hst hke
      go_wp2_with fail
      go_roundw
      case rel => exact ⟨j + 1, by go_num, by omega, HN.out⟩
      case measure => simp [intOf]; omega
    case neg =>
    have t2 : ((k : Int) != (r.id : Int)) = true := by simp; omega
    have t3 : decide ((k : Int) = (r.id : Int)) = false := by simp; omega
    have hbk := hst.bk
    unfold msC at hbk
    have z0 := hbk.cell 0 rfl
    have z1 := hbk.cell 1 rfl
    have z2 := hbk.cell 2 rfl
    have z3 := hbk.cell 3 rfl
    have z4 := hbk.cell 4 rfl
    have z5 := hbk.cell 5 rfl
    have z6 := hbk.cell 6 rfl
    have z7 := hbk.cell 7 rfl
    have z8 := hbk.cell 8 rfl
    have hb4l := hbk.lt
    have HKE := Lib.hid hke
    have HID := Lib.hid hst.id
    clear hst hbk hke
    simp only at z0 z1 z2 z3 z4 z5 z6 z7 z8
    obtain ⟨c1, hx1, hf1, hrv1, hcb1⟩ := HS.out.ex
    have hgo : ∀ l, (opE 1).lab l ∨ l = lo → ¬ Gi i l := fun l hl => hl.elim (fun h => by
      have h1 : l = 1 := h
      unfold Gi; omega) fun h => h ▸ HH.out.2.2.1
    have hmr := HH.out.2.1.fr (opE_ok 1) hx1 hf1 hgo
    have hba : Below wr.heap.size wr (wr.alloc (.cells (msC { m with fr := r.id, vw := r.vw } (.slice oa m.ops.length oc)).toArray 37)) := (Below.refl _ _).alloc (Nat.le_refl _) _
    have HOWN := Lib.hid (own_any m.ops (.slice oa m.ops.length oc) _ (hmr.fr (opE_ok 1) (Lx.refl _ _) (Fr.of_below (F := fun _ => False) hba) (fun _ _ h => h)) (by have := HH.out.2.2.2.1; omega))
    rw [World.size_alloc] at HOWN
    have HBA := Lib.hid hba
    unfold msC at HOWN
    simp only at HOWN
    clear hx1 hf1 hrv1 hcb1 hgo hmr hba
    go_wp2_with fail
    clear z0 z1 z2 z3 z4 z5 z6 z7 z8 y0 yt
    refine HOWN.out.mono ?_
    rintro e w2 ⟨v2, rfl, hnew, hb2⟩
    have hst2 := HS.out.step (lo := lo) HH.out.2.1 HH.out.2.2.1 HH.out.2.2.2.1 k hnew hb2 HL.out
    obtain ⟨lv2, hv2, xv2, sv2, uv2, v', w5, g1, g2, hrun, ⟨a5, c5, e5⟩, g3, g4, hN⟩ := hst2
    subst e5
    obtain ⟨x2, y2, e2⟩ : ∃ a c, v2 = .slice a m.ops.length c := by
      obtain ⟨vs2, _, h2, _⟩ := hnew.ex
      exact (Rd.of_own h2).slice
    subst e2
    obtain ⟨b8, hb8⟩ : ∃ b8, b8 = wr.heap.size := ⟨_, rfl⟩
    have h8 : Blk w2 wr.heap.size 37 [.int .i64 (m.kd : Int), .int .i64 (r.id : Int), .int .i64 (r.vw : Int), .int .i64 (m.nr : Int), .int .i64 (m.ao : Int), .slice oa m.ops.length oc, .int .i64 (m.cm : Int), .int .i64 (m.sb : Int), .int .i64 (m.ls : Int)] := (hb2.block wr.heap.size (by omega)).trans (Blk.new wr 37 _)
    have z5 := h8.cell 5 rfl
    have f5 := h8.frozen 5
    rw [← hb8] at h8 z5 f5 g1 g2 hrun ⊢
    have HG := Lib.hid (And.intro g1 g2)
    have HRUN := Lib.hid hrun
    have HN := Lib.hid hN
    clear g1 g2 hrun hN h8 hnew hb2 HOWN HBA hb4l HS hb8
    go_upto_region 8 with fail
    clear z5 f5
    generalize w2.setCell ⟨b8, 5, none⟩ (.slice x2 m.ops.length y2) = w3 at *
    have y15 := HG.out.1.cell 15 rfl
    have hg2 := HG.out.2
    unfold msC at hg2
    simp only at hg2
    have z0 := hg2.cell 0 rfl
    have z1 := hg2.cell 1 rfl
    have z2 := hg2.cell 2 rfl
    have z3 := hg2.cell 3 rfl
    have z4 := hg2.cell 4 rfl
    have z5 := hg2.cell 5 rfl
    have z6 := hg2.cell 6 rfl
    have z7 := hg2.cell 7 rfl
    have z8 := hg2.cell 8 rfl
    clear hg2
    have HK : Hid (sndL m r (ks.take (j + 1)) = { sndL m r (ks.take j) with out := (sndL m r (ks.take j)).out ++ [⟨k, { m with fr := r.id, vw := r.vw }⟩] }) := Lib.hid (by
      rw [HTK.out, sndL_snoc]
      exact snd1_ne m HKE.out HID.out)
    unfold sdC at HRUN
    simp only at HRUN
    have y15b : (w3.alloc (.cells #[.int .i64 (k : Int), .int .i64 (m.kd : Int), .int .i64 (r.id : Int), .int .i64 (r.vw : Int), .int .i64 (m.nr : Int), .int .i64 (m.ao : Int), .slice x2 m.ops.length y2, .int .i64 (m.cm : Int), .int .i64 (m.sb : Int), .int .i64 (m.ls : Int)] 53)).cell? ⟨p, 15, none⟩ = some uv2 := (HG.out.1.alloc _).cell 15 rfl
    go_region_law (refine step_execA (by rfl) (execA (.tmp 43) (.tmp 47) 44 rfl rfl rfl HRUN.out) ?_)
    all_goals clear z0 z1 z2 z3 z4 z5 z6 z7 z8 y15 y15b HRUN
    all_goals go_wp2_with fail
    all_goals
      go_roundw
      case rel => exact ⟨j + 1, by go_num, by omega, by rw [HK.out]; exact HN.out⟩
      case measure => simp [intOf]; omega
end Go.Proofs.YtdmjegelcdghlaaGreat.Vw
namespace Go.Proofs.YtdmjegelcdghlaaGreat.Vw
set_option linter.unusedVariables false
set_option linter.unusedSimpArgs false

def ints (l : List Nat) : List Int := l.map Int.ofNat
theorem has_ints (l : List Nat) (i : Nat) : Qs.has (ints l) i = ((l.getD i 0 : Nat) : Int) := by
  unfold Qs.has ints
  rw [List.getD_eq_getElem?_getD, List.getElem?_map, List.getD_eq_getElem?_getD]
  cases l[i]? <;> simp
theorem cnt_ints (l : List Nat) (c n : Nat) : Qs.cnt (ints l) (c : Int) n = hasN l c n := by
  rw [Qs.cnt_countP, List.countP_map]
  unfold hasN
  refine List.countP_congr fun k _ => ?_
  simp only [Function.comp, has_ints, decide_eq_true_eq]
  omega
theorem rank_spec (l : List Nat) (N M : Nat) (h1 : 1 ≤ M) (h2 : M ≤ N) (b : Nat) (hb : ∀ i, i < N → l.getD i 0 ≤ b) : (Qs.rising (ints l) N).getD (N - M) 0 = ((most l N M b : Nat) : Int) := by
  have hlen := Qs.rising_len (ints l) N
  have hd : N - M < (Qs.rising (ints l) N).length := by omega
  have hy : (Qs.rising (ints l) N).getD (N - M) 0 = (Qs.rising (ints l) N)[N - M] := by simp [List.getD, hd]
  have hs := List.pairwise_iff_getElem.1 (Qs.rising_sorted (ints l) N)
  have hmem : (Qs.rising (ints l) N)[N - M] ∈ (List.range N).map (Qs.has (ints l)) := (Qs.rising_perm (ints l) N).mem_iff.1 (List.getElem_mem hd)
  obtain ⟨i, hi, hiy⟩ := List.mem_map.1 hmem
  rw [List.mem_range] at hi
  rw [has_ints] at hiy
  rw [hy, ← hiy]
  generalize hR : l.getD i 0 = R at *
  have hRb : R ≤ b := by rw [← hR]; exact hb i hi
  have hge : M ≤ hasN l R N := by
    rw [← cnt_ints, Qs.cnt_rising, hiy]
    have e : (Qs.rising (ints l) N).countP (fun y => decide ((Qs.rising (ints l) N)[N - M] ≤ y)) = _ := congrArg (List.countP _) (List.take_append_drop (N - M) (Qs.rising (ints l) N)).symm
    rw [e, List.countP_append]
    have : ((Qs.rising (ints l) N).drop (N - M)).countP (fun y => decide ((Qs.rising (ints l) N)[N - M] ≤ y)) = ((Qs.rising (ints l) N).drop (N - M)).length := by
      rw [List.countP_eq_length]
      intro z hz
      obtain ⟨j, hj, rfl⟩ := List.getElem_of_mem hz
      rw [List.getElem_drop]
      by_cases hj0 : j = 0
      · subst hj0; simp
      · exact decide_eq_true (hs _ _ _ _ (by omega))
    rw [this, List.length_drop]; omega
  have hle : ∀ c, R < c → hasN l c N < M := by
    intro c hc
    rw [← cnt_ints, Qs.cnt_rising]
    have e : (Qs.rising (ints l) N).countP (fun y => decide ((c : Int) ≤ y)) = _ := congrArg (List.countP _) (List.take_append_drop (N - M + 1) (Qs.rising (ints l) N)).symm
    rw [e, List.countP_append]
    have hz : ((Qs.rising (ints l) N).take (N - M + 1)).countP (fun y => decide ((c : Int) ≤ y)) = 0 := by
      rw [List.countP_eq_zero]
      intro z hz
      obtain ⟨q, hq, rfl⟩ := List.getElem_of_mem hz
      rw [List.length_take] at hq
      rw [List.getElem_take, decide_eq_true_iff]
      by_cases hqe : q = N - M
      · subst hqe; omega
      · have := hs q (N - M) (by omega) hd (by omega); omega
    have hle := List.countP_le_length (p := fun y => decide ((c : Int) ≤ y)) (l := (Qs.rising (ints l) N).drop (N - M + 1))
    rw [List.length_drop] at hle
    omega
  congr 1
  have aux : ∀ b, R ≤ b → most l N M b = R := by
    intro b
    induction b with
    | zero => intro h; unfold most; omega
    | succ b ih =>
      intro h
      unfold most
      by_cases e : R = b + 1
      · rw [if_pos (by rw [← e]; exact hge), e]
      · rw [if_neg (by have := hle (b + 1) (by omega); omega)]
        exact ih (by omega)
  exact (aux b hRb).symm
theorem reached_rch (l : List Nat) (n b : Nat) (hn : 1 ≤ n ∧ n ≤ 7) (hb : ∀ i, i < n → l.getD i 0 ≤ b) : Qs.reached (ints l) (n : Int) = ((rch l n b : Nat) : Int) := by
  have hm : Qs.maj (n : Int) = ((n / 2 + 1 : Nat) : Int) := by unfold Qs.maj; rw [if_neg (by omega)]; omega
  unfold Qs.reached rch
  rw [if_neg (by omega), hm, ← rank_spec l n (n / 2 + 1) (by omega) (by omega) b hb, Int.toNat_natCast]
  congr 1
  omega
theorem stable_stb (l : List Nat) (n b : Nat) (hn : 1 ≤ n ∧ n ≤ 7) (hb : ∀ i, i < n → l.getD i 0 ≤ b) : Qs.stable (ints l) (n : Int) = ((stb l n b : Nat) : Int) := by
  unfold Qs.stable stb
  rw [if_neg (by omega), ← rank_spec l n n (by omega) (by omega) b hb, Int.toNat_natCast, Nat.sub_self]
theorem most_le (l : List Nat) (n m : Nat) : ∀ b, most l n m b ≤ b := by
  intro b
  induction b with
  | zero => simp [most]
  | succ b ih => unfold most; split <;> omega
end Go.Proofs.YtdmjegelcdghlaaGreat.Vw
