/-
  Chapter 22: ready: the ops that are sure.
  (Texts put together: Dv.)
-/
import Derived.Test.YtdmjegelcdghlaaGreatGDq
import Derived.Test.YtdmjegelcdghlaaGreatGDr
namespace Go.Proofs.YtdmjegelcdghlaaGreat.Vw
open Go.RowKit Go.Maps
set_option linter.unusedVariables false
set_option linter.unusedSimpArgs false
set_option maxRecDepth 100000

theorem slice_lh (w : World) (t : TypeId) (a : Option Addr) (n cap k m : Nat) (ht : Tryz.prog.underlying t = some (.slice (Tryz.prog.elem t))) {s : Nat} (hs : (sizeOf (Tryz.prog.elem t)).run Tryz.prog w = .ok s w) (h : k ≤ m) (h2 : m ≤ cap) :
    (Instr.slice t (.slice a n cap) (some (.int .i64 (k : Int))) (some (.int .i64 (m : Int))) none).run Tryz.prog w = .ok (.slice (if cap = k then a else a.map (·.add (k * s))) (m - k) (cap - k)) w := by
  rw [run_slice_lh w t a n cap ht .i64 .i64 k m (by omega) (by omega) (by omega), hs]
  simp only [Result.andThen, sliced, Int.toNat_natCast]
theorem SlR.capLe {c : Lb} {lo : Nat} {W : World} {a : Option Addr} {n cap : Nat} {l : List Op} (h : SlR (opE 1) c lo W (.slice a n cap) l) (hn : n = l.length) (h0 : 0 < n) : n ≤ cap := by
  obtain ⟨vs, _, h2⟩ := h.ex
  rcases h2.2 with ⟨⟨_, _, e⟩, h1⟩ | ⟨b, o, c', e, hle, _⟩
  · omega
  · cases e; omega
set_option maxHeartbeats 16000000 in
theorem ready_any {i : Nat} {c : Lb} {r : Rp Op} (p : Nat) (w : World) (h : RV i c w p r) (hl : LI r) :
    Calls Tryz.prog 19 #[.pointer (some ⟨p, 0, none⟩)] w fun e w' => ∃ v, e = .returned v ∧ ∃ c', Lx w c c' ∧ Fr (Fi i) c w w' ∧ RV i c' w' p (told r) ∧ SlR (opE 1) c' 1 w' v (ready r) := by
  obtain ⟨hlp, lv, hv, xv, sv, uv, hbp, hrp⟩ := h
  obtain ⟨la, lc, el⟩ := hrp.lg.slice
  subst el
  have hpl := hbp.lt
  obtain ⟨k, hk⟩ : ∃ k, k = r.td - r.bs := ⟨_, rfl⟩
  obtain ⟨m, hm⟩ : ∃ m, m = r.cm - r.bs := ⟨_, rfl⟩
  have hbs := hl.bs
  have hls := hl.ls
  have hlo := hl.lo
  have hTM : TM = 1099511627776 := rfl
  have hkm : k ≤ m ∧ m ≤ r.log.length := by omega
  have hw1 : IntKind.i64.wrap ((r.td : Int) - (r.bs : Int)) = (k : Int) := by rw [IntWalk.i64_in _ (by omega)]; omega
  have hw2 : IntKind.i64.wrap ((r.cm : Int) - (r.bs : Int)) = (m : Int) := by rw [IntWalk.i64_in _ (by omega)]; omega
  have hcap : m ≤ lc := by
    rcases Nat.eq_zero_or_pos r.log.length with h0 | h0
    · omega
    · have := hrp.lg.sl.capLe rfl h0; omega
  obtain ⟨oa, hoa⟩ : ∃ oa, oa = (if lc = k then la else la.map (·.add (k * 16))) := ⟨_, rfl⟩
  have hsl : ∀ W, (Instr.slice 35 (.slice la r.log.length lc) (some (.int .i64 (k : Int))) (some (.int .i64 (m : Int))) none).run Tryz.prog W = .ok (.slice oa (m - k) (lc - k)) W := fun W => by
    rw [hoa]
    exact slice_lh W 35 la r.log.length lc k m rfl (s := 16) (by kernel_rfl) hkm.1 hcap
  have htl : (r.log.take m).length = m := by rw [List.length_take]; omega
  have HSL : SlR (opE 1) c (11 + 10 * i) w (.slice oa (m - k) (lc - k)) ((r.log.take m).drop k) := by
    have h1 := (hrp.lg.sl.front (opE_ok 1) rfl m hkm.2).back (opE_ok 1) htl.symm k (by omega)
    rw [show (opE 1).sz = 16 from rfl, ← hoa] at h1
    exact h1
  have hrd : ready r = (r.log.take m).drop k := by
    unfold ready
    rw [← hk, List.drop_take, show m - k = r.cm - r.td from by omega]
  have hdl : ((r.log.take m).drop k).length = m - k := by rw [List.length_drop, htl]
  rw [hrd]
  have HOW := Lib.hid (fun W (hb : Below w.heap.size w W) => own_any ((r.log.take m).drop k) (.slice oa (m - k) (lc - k)) W (HSL.below (opE_ok 1) hb) (by rw [hdl]; omega))
  have HH := Lib.hid (And.intro hlp (And.intro hbp (And.intro hrp (And.intro hl hdl))))
  have HP := Lib.hid hbp
  clear hlp hbp hrp hl hk hm hbs hls hlo hTM hkm hcap hoa HSL hrd htl hdl
  go_enter Tryz.func19, Tryz.ntmps19
  go_upto_region 4 with fail
  refine wp_region_K (fun W => Below w.heap.size w W ∧ W.cell? ⟨p, 10, none⟩ = some (.slice la r.log.length lc) ∧ W.cell? ⟨p, 5, none⟩ = some (.int .i64 (r.bs : Int)) ∧ W.cell? ⟨p, 6, none⟩ = some (.int .i64 (r.td : Int)) ∧ W.cell? ⟨p, 7, none⟩ = some (.int .i64 (r.cm : Int))) 23 (by kernel_rfl) ?_ (fun hHeld1 => ?_)
  · exact ⟨(Below.refl _ _).drew, HP.out.cell 10 rfl, HP.out.cell 5 rfl, HP.out.cell 6 rfl, HP.out.cell 7 rfl⟩
  refine wpAnyK_take (i := 0) (n := 12) (oi := ?oi1) (v := ?v1) ?hi1 (by kernel_rfl) (by kernel_rfl) (by kernel_rfl) (by kernel_rfl) ?hq1 ?hy1 (by assumption) ?rest1
  case hi1 => (simp only [List.getElem?_toArray, List.getElem?_cons_succ, List.getElem?_cons_zero]; rfl)
  case hq1 => exact fun _ _ _ h => h
  case hy1 => (refine Or.inl ⟨by rfl, ?_⟩; intro W hSw; (try dsimp only at hSw); skip; go_simp; (try with_reducible rfl))
  try simp only [Act.put, List.setIfInBounds_toArray, List.set_cons_zero, List.set_cons_succ]
  refine wpAnyK_take (i := 1) (n := 12) (oi := ?oi2) (v := ?v2) ?hi2 (by kernel_rfl) (by kernel_rfl) (by kernel_rfl) (by kernel_rfl) ?hq2 ?hy2 (by assumption) ?rest2
  case hi2 => (simp only [List.getElem?_toArray, List.getElem?_cons_succ, List.getElem?_cons_zero]; rfl)
  case hq2 => exact fun _ _ _ h => h
  case hy2 => (refine Or.inl ⟨by rfl, ?_⟩; intro W hSw; (try dsimp only at hSw); skip; go_simp; (try with_reducible rfl))
  try simp only [Act.put, List.setIfInBounds_toArray, List.set_cons_zero, List.set_cons_succ]
  refine wpAnyK_take (i := 2) (n := 12) (oi := ?oi3) (v := ?v3) ?hi3 (by kernel_rfl) (by kernel_rfl) (by kernel_rfl) (by kernel_rfl) ?hq3 ?hy3 (by assumption) ?rest3
  case hi3 => (simp only [List.getElem?_toArray, List.getElem?_cons_succ, List.getElem?_cons_zero]; rfl)
  case hq3 => exact fun _ _ _ h => h
  case hy3 => (refine Or.inl ⟨by rfl, ?_⟩; intro W hSw; (try dsimp only at hSw); skip; go_simp; (try with_reducible rfl))
  try simp only [Act.put, List.setIfInBounds_toArray, List.set_cons_zero, List.set_cons_succ]
  refine wpAnyK_take (i := 3) (n := 12) (oi := ?oi4) (v := ?v4) ?hi4 (by kernel_rfl) (by kernel_rfl) (by kernel_rfl) (by kernel_rfl) ?hq4 ?hy4 (by assumption) ?rest4
  case hi4 => (simp only [List.getElem?_toArray, List.getElem?_cons_succ, List.getElem?_cons_zero]; rfl)
  case hq4 => exact fun _ _ _ h => h
  case hy4 => (refine Or.inl ⟨by rfl, ?_⟩; intro W hSw; (try dsimp only at hSw); skip; go_simp; (try with_reducible rfl))
  try simp only [Act.put, List.setIfInBounds_toArray, List.set_cons_zero, List.set_cons_succ]
  refine wpAnyK_take (i := 4) (n := 12) (oi := ?oi5) (v := ?v5) ?hi5 (by kernel_rfl) (by kernel_rfl) (by kernel_rfl) (by kernel_rfl) ?hq5 ?hy5 (by assumption) ?rest5
  case hi5 => (simp only [List.getElem?_toArray, List.getElem?_cons_succ, List.getElem?_cons_zero]; rfl)
  case hq5 => exact fun _ _ _ h => h
  case hy5 => (refine Or.inl ⟨by rfl, ?_⟩; intro W hSw; (try dsimp only at hSw); skip; go_simp; (try with_reducible rfl))
  try simp only [Act.put, List.setIfInBounds_toArray, List.set_cons_zero, List.set_cons_succ]
  refine wpAnyK_take (i := 5) (n := 12) (oi := ?oi6) (v := ?v6) ?hi6 (by kernel_rfl) (by kernel_rfl) (by kernel_rfl) (by kernel_rfl) ?hq6 ?hy6 (by assumption) ?rest6
  case hi6 => (simp only [List.getElem?_toArray, List.getElem?_cons_succ, List.getElem?_cons_zero]; rfl)
  case hq6 => exact fun _ _ _ h => h
  case hy6 => (refine Or.inl ⟨by rfl, ?_⟩; intro W hSw; (try dsimp only at hSw); skip; go_simp; (try with_reducible rfl))
  try simp only [Act.put, List.setIfInBounds_toArray, List.set_cons_zero, List.set_cons_succ]
  refine wpAnyK_take (i := 6) (n := 12) (oi := ?oi7) (v := ?v7) ?hi7 (by kernel_rfl) (by kernel_rfl) (by kernel_rfl) (by kernel_rfl) ?hq7 ?hy7 (by assumption) ?rest7
  case hi7 => (simp only [List.getElem?_toArray, List.getElem?_cons_succ, List.getElem?_cons_zero]; rfl)
  case hq7 => exact fun _ _ _ h => h
  case hy7 => (refine Or.inl ⟨by rfl, ?_⟩; intro W hSw; (try dsimp only at hSw); skip; go_simp; (try with_reducible rfl))
  try simp only [Act.put, List.setIfInBounds_toArray, List.set_cons_zero, List.set_cons_succ]
  refine wpAnyK_take (i := 7) (n := 12) (oi := ?oi8) (v := ?v8) ?hi8 (by kernel_rfl) (by kernel_rfl) (by kernel_rfl) (by kernel_rfl) ?hq8 ?hy8 (by assumption) ?rest8
  case hi8 => (simp only [List.getElem?_toArray, List.getElem?_cons_succ, List.getElem?_cons_zero]; rfl)
  case hq8 => exact fun _ _ _ h => h
  case hy8 => (refine Or.inl ⟨by rfl, ?_⟩; intro W hSw; (try dsimp only at hSw); skip; go_simp; (try with_reducible rfl))
  try simp only [Act.put, List.setIfInBounds_toArray, List.set_cons_zero, List.set_cons_succ]
  refine wpAnyK_take (i := 8) (n := 12) (oi := ?oi9) (v := ?v9) ?hi9 (by kernel_rfl) (by kernel_rfl) (by kernel_rfl) (by kernel_rfl) ?hq9 ?hy9 (by assumption) ?rest9
  case hi9 => (simp only [List.getElem?_toArray, List.getElem?_cons_succ, List.getElem?_cons_zero]; rfl)
  case hq9 => exact fun _ _ _ h => h
  case hy9 => (refine Or.inl ⟨by rfl, ?_⟩; intro W hSw; (try dsimp only at hSw); skip; go_simp; (try with_reducible rfl))
  try simp only [Act.put, List.setIfInBounds_toArray, List.set_cons_zero, List.set_cons_succ]
  refine wpAnyK_take (i := 9) (n := 12) (oi := ?oi10) (v := ?v10) ?hi10 (by kernel_rfl) (by kernel_rfl) (by kernel_rfl) (by kernel_rfl) ?hq10 ?hy10 (by assumption) ?rest10
  case hi10 => (simp only [List.getElem?_toArray, List.getElem?_cons_succ, List.getElem?_cons_zero]; rfl)
  case hq10 => exact fun _ _ _ h => h
  case hy10 => (refine Or.inl ⟨by rfl, ?_⟩; intro W hSw; (try dsimp only at hSw); skip; go_simp; (try with_reducible rfl))
  try simp only [Act.put, List.setIfInBounds_toArray, List.set_cons_zero, List.set_cons_succ]
  refine wpAnyK_take (i := 10) (n := 12) (oi := ?oi11) (v := ?v11) ?hi11 (by kernel_rfl) (by kernel_rfl) (by kernel_rfl) (by kernel_rfl) ?hq11 ?hy11 (by assumption) ?rest11
  case hi11 => (simp only [List.getElem?_toArray, List.getElem?_cons_succ, List.getElem?_cons_zero]; rfl)
  case hq11 => exact fun _ _ _ h => h
  case hy11 => (refine Or.inl ⟨by rfl, ?_⟩; intro W hSw; (try dsimp only at hSw); skip; go_simp; (try with_reducible rfl))
  try simp only [Act.put, List.setIfInBounds_toArray, List.set_cons_zero, List.set_cons_succ]
  refine wpAnyK_take (i := 11) (n := 12) (oi := ?oi12) (v := ?v12) ?hi12 (by kernel_rfl) (by kernel_rfl) (by kernel_rfl) (by kernel_rfl) ?hq12 ?hy12 (by assumption) ?rest12
  case hi12 => (simp only [List.getElem?_toArray, List.getElem?_cons_succ, List.getElem?_cons_zero]; rfl)
  case hq12 => exact fun _ _ _ h => h
  case hy12 => (refine Or.inl ⟨by rfl, ?_⟩; intro W hSw; (try dsimp only at hSw); skip; go_simp; (try with_reducible rfl))
  try simp only [Act.put, List.setIfInBounds_toArray, List.set_cons_zero, List.set_cons_succ]
  refine wpAnyK_take (i := 12) (n := 12) (oi := ?oi13) (v := ?v13) ?hi13 (by kernel_rfl) (by kernel_rfl) (by kernel_rfl) (by kernel_rfl) ?hq13 ?hy13 (by assumption) ?rest13
  case hi13 => (simp only [List.getElem?_toArray, List.getElem?_cons_succ, List.getElem?_cons_zero]; rfl)
  case hq13 => exact fun _ _ _ h => h
  case hy13 => (refine Or.inl ⟨by rfl, ?_⟩; intro W hSw; (try dsimp only at hSw); skip; go_simp; (try with_reducible rfl))
  try simp only [Act.put, List.setIfInBounds_toArray, List.set_cons_zero, List.set_cons_succ]
  refine wpAnyK_take (i := 13) (n := 12) (oi := ?oi14) (v := ?v14) ?hi14 (by kernel_rfl) (by kernel_rfl) (by kernel_rfl) (by kernel_rfl) ?hq14 ?hy14 (by assumption) ?rest14
  case hi14 => (simp only [List.getElem?_toArray, List.getElem?_cons_succ, List.getElem?_cons_zero]; rfl)
  case hq14 => exact fun _ _ _ h => h
  case hy14 => (refine Or.inl ⟨by rfl, ?_⟩; intro W hSw; (try dsimp only at hSw); skip; go_simp; (try with_reducible rfl))
  try simp only [Act.put, List.setIfInBounds_toArray, List.set_cons_zero, List.set_cons_succ]
  refine wpAnyK_take (i := 14) (n := 12) (oi := ?oi15) (v := ?v15) ?hi15 (by kernel_rfl) (by kernel_rfl) (by kernel_rfl) (by kernel_rfl) ?hq15 ?hy15 (by assumption) ?rest15
  case hi15 => (simp only [List.getElem?_toArray, List.getElem?_cons_succ, List.getElem?_cons_zero]; rfl)
  case hq15 => exact fun _ _ _ h => h
  case hy15 => (refine Or.inl ⟨by rfl, ?_⟩; intro W hSw; (try dsimp only at hSw); skip; go_simp; (try with_reducible rfl))
  try simp only [Act.put, List.setIfInBounds_toArray, List.set_cons_zero, List.set_cons_succ]
  refine wpAnyK_take (i := 15) (n := 12) (oi := ?oi16) (v := ?v16) ?hi16 (by kernel_rfl) (by kernel_rfl) (by kernel_rfl) (by kernel_rfl) ?hq16 ?hy16 (by assumption) ?rest16
  case hi16 => (simp only [List.getElem?_toArray, List.getElem?_cons_succ, List.getElem?_cons_zero]; rfl)
  case hq16 => exact fun _ _ _ h => h
  case hy16 => (refine Or.inl ⟨by rfl, ?_⟩; intro W hSw; (try dsimp only at hSw); skip; go_simp; (try with_reducible rfl))
  try simp only [Act.put, List.setIfInBounds_toArray, List.set_cons_zero, List.set_cons_succ]
  refine wpAnyK_take (i := 16) (n := 12) (oi := ?oi17) (v := ?v17) ?hi17 (by kernel_rfl) (by kernel_rfl) (by kernel_rfl) (by kernel_rfl) ?hq17 ?hy17 (by assumption) ?rest17
  case hi17 => (simp only [List.getElem?_toArray, List.getElem?_cons_succ, List.getElem?_cons_zero]; rfl)
  case hq17 => exact fun _ _ _ h => h
  case hy17 => (refine Or.inl ⟨by rfl, ?_⟩; intro W hSw; (try dsimp only at hSw); skip; go_simp; (try with_reducible rfl))
  try simp only [Act.put, List.setIfInBounds_toArray, List.set_cons_zero, List.set_cons_succ]
  refine wpAnyK_take (i := 17) (n := 12) (oi := ?oi18) (v := ?v18) ?hi18 (by kernel_rfl) (by kernel_rfl) (by kernel_rfl) (by kernel_rfl) ?hq18 ?hy18 (by assumption) ?rest18
  case hi18 => (simp only [List.getElem?_toArray, List.getElem?_cons_succ, List.getElem?_cons_zero]; rfl)
  case hq18 => exact fun _ _ _ h => h
  case hy18 => (refine Or.inl ⟨by rfl, ?_⟩; intro W hSw; (try dsimp only at hSw); skip; go_simp; (try with_reducible rfl))
  try simp only [Act.put, List.setIfInBounds_toArray, List.set_cons_zero, List.set_cons_succ]
  refine wpAnyK_take (i := 18) (n := 12) (oi := ?oi19) (v := ?v19) ?hi19 (by kernel_rfl) (by kernel_rfl) (by kernel_rfl) (by kernel_rfl) ?hq19 ?hy19 (by assumption) ?rest19
  case hi19 => (simp only [List.getElem?_toArray, List.getElem?_cons_succ, List.getElem?_cons_zero]; rfl)
  case hq19 => exact fun _ _ _ h => h
  case hy19 => (refine Or.inl ⟨by rfl, ?_⟩; intro W hSw; (try dsimp only at hSw); skip; go_simp; (try with_reducible rfl))
  try simp only [Act.put, List.setIfInBounds_toArray, List.set_cons_zero, List.set_cons_succ]
  refine wpAnyK_take (i := 19) (n := 12) (oi := ?oi20) (v := ?v20) ?hi20 (by kernel_rfl) (by kernel_rfl) (by kernel_rfl) (by kernel_rfl) ?hq20 ?hy20 (by assumption) ?rest20
  case hi20 => (simp only [List.getElem?_toArray, List.getElem?_cons_succ, List.getElem?_cons_zero]; rfl)
  case hq20 => exact fun _ _ _ h => h
  case hy20 => (refine Or.inl ⟨by rfl, ?_⟩; intro W hSw; (try dsimp only at hSw); skip; go_simp; (try with_reducible rfl))
  try simp only [Act.put, List.setIfInBounds_toArray, List.set_cons_zero, List.set_cons_succ]
  refine wpAnyK_take (i := 20) (n := 12) (oi := ?oi21) (v := ?v21) ?hi21 (by kernel_rfl) (by kernel_rfl) (by kernel_rfl) (by kernel_rfl) ?hq21 ?hy21 (by assumption) ?rest21
  case hi21 => (simp only [List.getElem?_toArray, List.getElem?_cons_succ, List.getElem?_cons_zero]; rfl)
  case hq21 => exact fun _ _ _ h => h
  case hy21 => (refine Or.inl ⟨by rfl, ?_⟩; intro W hSw; (try dsimp only at hSw); skip; go_simp; (try with_reducible rfl))
  try simp only [Act.put, List.setIfInBounds_toArray, List.set_cons_zero, List.set_cons_succ]
  refine wpAnyK_take (i := 21) (n := 12) (oi := ?oi22) (v := ?v22) ?hi22 (by kernel_rfl) (by kernel_rfl) (by kernel_rfl) (by kernel_rfl) ?hq22 ?hy22 (by assumption) ?rest22
  case hi22 => (simp only [List.getElem?_toArray, List.getElem?_cons_succ, List.getElem?_cons_zero]; rfl)
  case hq22 => exact fun _ _ _ h => h
  case hy22 => (refine Or.inl ⟨by rfl, ?_⟩; intro W hSw; (try dsimp only at hSw); skip; go_simp; (try with_reducible rfl))
  try simp only [Act.put, List.setIfInBounds_toArray, List.set_cons_zero, List.set_cons_succ]
  refine wpAnyK_take (i := 22) (n := 12) (oi := ?oi23) (v := ?v23) ?hi23 (by kernel_rfl) (by kernel_rfl) (by kernel_rfl) (by kernel_rfl) ?hq23 ?hy23 (by assumption) ?rest23
  case hi23 => (simp only [List.getElem?_toArray, List.getElem?_cons_succ, List.getElem?_cons_zero]; rfl)
  case hq23 => exact fun _ _ _ h => h
  case hy23 => (refine Or.inl ⟨by rfl, ?_⟩; intro W hSw; (try dsimp only at hSw); skip; go_simp; (try with_reducible rfl))
  try simp only [Act.put, List.setIfInBounds_toArray, List.set_cons_zero, List.set_cons_succ]
  refine wpAnyK_lasts [24] (by kernel_rfl) (by rfl) (by rfl) ?_
  simp only [List.filterMap_cons, List.filterMap_nil, List.getElem?_toArray, List.getElem?_cons_succ, List.getElem?_cons_zero]
  refine wpList_step fun K hK0 => ?_
  have hK := Lib.hid hK0
  clear hK0
  rw [if_pos (by rfl)]
  go_simp
  refine (HOW.out _ (Below.refl _ _).drew).mono ?_
  rintro e w1 ⟨v1, rfl, hnew, hb1⟩
  obtain ⟨a1, q1, e1⟩ := hnew.slice
  rw [HH.out.2.2.2.2] at e1
  subst e1
  have HB1 := Lib.hid ((Below.refl w.heap.size w).drew.trans hb1)
  have HNW := Lib.hid hnew
  clear hb1 hnew
  go_wp2_with fail
  refine hK.out _ _ ?_
  clear hK
  try simp only [Act.put, List.setIfInBounds_toArray, List.set_cons_zero, List.set_cons_succ]
  refine wpList_step fun K hK => ?_
  rw [if_pos (by rfl)]
  go_simp
  refine hK _ _ ?_
  clear hK
  try simp only [Act.put, List.setIfInBounds_toArray, List.set_cons_zero, List.set_cons_succ]
  clear hHeld1 hw1 hw2 hsl HOW
  obtain ⟨c1, hc1⟩ : ∃ c1, c1 = c.new w.heap.size (.slice a1 (m - k) q1) 1 1 := ⟨_, rfl⟩
  have HX1 : Hid (Lx w c c1 ∧ SlR (opE 1) c1 1 w1 (.slice a1 (m - k) q1) ((r.log.take m).drop k) ∧ RP i c1 w1 r (.slice la r.log.length lc) hv xv sv uv ∧ c1 p = 10 + 10 * i) := Lib.hid (by
    have h1 := HNW.out.row c 1 1
    have h2 : Lx w c c1 := by rw [hc1]; exact h1.1
    refine ⟨h2, by rw [hc1]; exact h1.2.sl, HH.out.2.2.1.below h2 HB1.out, (h2 p hpl).trans HH.out.1⟩)
  have HP1 := Lib.hid (HP.out.below HB1.out hpl)
  have y6 := HP1.out.cell 6 rfl
  have f6 := HP1.out.frozen 6
  have y7 := HP1.out.cell 7 rfl
  obtain ⟨w2, hw2⟩ : ∃ w2, w2 = w1.setCell ⟨p, 6, none⟩ (.int .i64 (r.cm : Int)) := ⟨_, rfl⟩
  have HPS2 : Hid (Ps p w1 w2) := Lib.hid (by rw [hw2]; exact (Ps.refl p w1).set _ _)
  have HP2 : Hid (Blk w2 p 94 (rpC { r with td := r.cm } (.slice la r.log.length lc) hv xv sv uv)) := Lib.hid (by rw [hw2]; exact HP1.out.set 6 _)
  clear hc1
  go_wp2_with fail
  go_upto_region 6 with fail
  rw [← hw2]
  clear hw2 y6 f6 y7
  have y6 := HP2.out.cell 6 rfl
  have y8 := HP2.out.cell 8 rfl
  obtain ⟨to, hto⟩ : ∃ to, to = min r.sb r.cm := ⟨_, rfl⟩
  have hmn : min (r.sb : Int) (r.cm : Int) = (to : Int) := by omega
  have HTO := Lib.hid hto
  clear hto
  go_region
  obtain ⟨w3, hw3⟩ : ∃ w3, w3 = w2.drew := ⟨_, rfl⟩
  have HP3 : Hid (Blk w3 p 94 (rpC { r with td := r.cm } (.slice la r.log.length lc) hv xv sv uv)) := Lib.hid (by rw [hw3]; exact HP2.out.drew)
  have HPS3 : Hid (Ps p w1 w3) := Lib.hid (by rw [hw3]; exact HPS2.out.drew)
  try rw [← hw3]
  clear y6 y8 hmn
  have y5 : w3.cell? ⟨p, 5, none⟩ = some (.int .i64 (r.bs : Int)) := HP3.out.cell 5 rfl
  have HF3 : Hid (Fr (Fi i) c w w3) := Lib.hid ((Fr.of_below HB1.out).trans HX1.out.1 (HPS3.out.fr (by rw [HX1.out.2.2.2]; exact Fi_0 i)))
  have HS3 : Hid (SlR (opE 1) c1 1 w3 (.slice a1 (m - k) q1) ((r.log.take m).drop k)) := Lib.hid (HX1.out.2.1.fr (opE_ok 1) (Lx.refl _ _) (HPS3.out.fr (F := Fi i) (by rw [HX1.out.2.2.2]; exact Fi_0 i)) fun k hk => by
    have : k = 1 := by rcases hk with hk | hk <;> exact hk
    unfold Fi; omega)
  have HR3 : Hid (RP i c1 w3 { r with td := r.cm } (.slice la r.log.length lc) hv xv sv uv) := Lib.hid (by
    have h1 := HX1.out.2.2.1.ps HX1.out.2.2.2 HPS3.out
    exact ⟨h1.lg, h1.hv, h1.of, h1.sv, h1.ou⟩)
  have hrd : ready r = ready r := rfl
  by_cases htb : r.bs < to
  case neg =>
    have t1 : ¬ (r.bs : Int) < (to : Int) := by omega
    have HD : Hid (told r = { r with td := r.cm }) := Lib.hid (by unfold told; rw [if_neg (by rw [← HTO.out]; exact htb), if_neg (by rw [← HTO.out]; exact htb)])
    clear hw3
    go_wp2_with fail
    go_ret
    refine ⟨_, rfl, c1, HX1.out.1, HF3.out, ?_, HS3.out⟩
    rw [HD.out]
    exact ⟨HX1.out.2.2.2, _, hv, xv, sv, uv, HP3.out, HR3.out⟩
  case pos =>
    have t1 : (r.bs : Int) < (to : Int) := by omega
    have HTB := Lib.hid htb
    obtain ⟨kk, hkk⟩ : ∃ kk, kk = to - r.bs := ⟨_, rfl⟩
    have hkl : kk ≤ r.log.length := by have h1 := HTO.out; have h2 := HH.out.2.2.2.1.ls; have h3 := HH.out.2.2.2.1.bs; omega
    have hwr : IntKind.i64.wrap ((to : Int) - (r.bs : Int)) = (kk : Int) := by
      have h1 := HTO.out
      have h2 := HH.out.2.2.2.1.ls
      have h3 := HH.out.2.2.2.1.bs
      have h4 := HH.out.2.2.2.1.lo
      have hTM : TM = 1099511627776 := rfl
      rw [IntWalk.i64_in _ (by omega)]; omega
    obtain ⟨ob, hob⟩ : ∃ ob, ob = (if lc = kk then la else la.map (·.add (kk * 16))) := ⟨_, rfl⟩
    have hsl : ∀ W, (Instr.slice 35 (.slice la r.log.length lc) (some (.int .i64 (kk : Int))) none none).run Tryz.prog W = .ok (.slice ob (r.log.length - kk) (lc - kk)) W := fun W => by
      rw [hob]
      exact slice_int W 35 la r.log.length lc kk rfl (s := 16) (by kernel_rfl) hkl
    have hsk : SlR (opE 1) c1 (11 + 10 * i) w3 (.slice ob (r.log.length - kk) (lc - kk)) (r.log.drop kk) := by
      have h1 := HR3.out.lg.sl.back (opE_ok 1) rfl kk hkl
      rw [show (opE 1).sz = 16 from rfl, ← hob] at h1
      exact h1
    have hdl : (r.log.drop kk).length = r.log.length - kk := List.length_drop
    have HCL := Lib.hid (fun W (hb : Below w3.heap.size w3 W) => clone_any (r.log.drop kk) (.slice ob (r.log.length - kk) (lc - kk)) W (hsk.below (opE_ok 1) hb) (by have := HH.out.2.2.2.1.lo; rw [hdl]; omega))
    have HKK := Lib.hid (And.intro hkk hdl)
    clear hw3 htb hkk hkl hob hsk hdl
    go_upto_region 8 with fail
    clear y5 t1
    refine wp_region_K (fun W => Below w3.heap.size w3 W ∧ W.cell? ⟨p, 10, none⟩ = some (.slice la r.log.length lc) ∧ W.cell? ⟨p, 5, none⟩ = some (.int .i64 (r.bs : Int))) 12 (by kernel_rfl) ?_ (fun hHeld1 => ?_)
    · exact ⟨(Below.refl _ _).drew, HP3.out.cell 10 rfl, HP3.out.cell 5 rfl⟩
    refine wpAnyK_takeP (i := 0) (oi := ?oi24) (v := ?v24) ?hi24 (by kernel_rfl) (by kernel_rfl) (by kernel_rfl) (by kernel_rfl) ?hq24 ?hy24 (by assumption) ?rest24
    case hi24 => (simp only [List.getElem?_toArray, List.getElem?_cons_succ, List.getElem?_cons_zero]; rfl)
    case hq24 => exact fun _ _ _ h => h
    case hy24 => (refine Or.inl ⟨by rfl, ?_⟩; intro W hSw; go_simp; (try with_reducible rfl))
    try simp only [Act.put, List.setIfInBounds_toArray, List.set_cons_zero, List.set_cons_succ]
    refine wpAnyK_take (i := 1) (n := 12) (oi := ?oi25) (v := ?v25) ?hi25 (by kernel_rfl) (by kernel_rfl) (by kernel_rfl) (by kernel_rfl) ?hq25 ?hy25 (by assumption) ?rest25
    case hi25 => (simp only [List.getElem?_toArray, List.getElem?_cons_succ, List.getElem?_cons_zero]; rfl)
    case hq25 => exact fun _ _ _ h => h
    case hy25 => (refine Or.inl ⟨by rfl, ?_⟩; intro W hSw; (try dsimp only at hSw); skip; go_simp; (try with_reducible rfl))
    try simp only [Act.put, List.setIfInBounds_toArray, List.set_cons_zero, List.set_cons_succ]
    refine wpAnyK_take (i := 2) (n := 12) (oi := ?oi26) (v := ?v26) ?hi26 (by kernel_rfl) (by kernel_rfl) (by kernel_rfl) (by kernel_rfl) ?hq26 ?hy26 (by assumption) ?rest26
    case hi26 => (simp only [List.getElem?_toArray, List.getElem?_cons_succ, List.getElem?_cons_zero]; rfl)
    case hq26 => exact fun _ _ _ h => h
    case hy26 => (refine Or.inl ⟨by rfl, ?_⟩; intro W hSw; (try dsimp only at hSw); skip; go_simp; (try with_reducible rfl))
    try simp only [Act.put, List.setIfInBounds_toArray, List.set_cons_zero, List.set_cons_succ]
    refine wpAnyK_take (i := 3) (n := 12) (oi := ?oi27) (v := ?v27) ?hi27 (by kernel_rfl) (by kernel_rfl) (by kernel_rfl) (by kernel_rfl) ?hq27 ?hy27 (by assumption) ?rest27
    case hi27 => (simp only [List.getElem?_toArray, List.getElem?_cons_succ, List.getElem?_cons_zero]; rfl)
    case hq27 => exact fun _ _ _ h => h
    case hy27 => (refine Or.inl ⟨by rfl, ?_⟩; intro W hSw; (try dsimp only at hSw); skip; go_simp; (try with_reducible rfl))
    try simp only [Act.put, List.setIfInBounds_toArray, List.set_cons_zero, List.set_cons_succ]
    refine wpAnyK_take (i := 4) (n := 12) (oi := ?oi28) (v := ?v28) ?hi28 (by kernel_rfl) (by kernel_rfl) (by kernel_rfl) (by kernel_rfl) ?hq28 ?hy28 (by assumption) ?rest28
    case hi28 => (simp only [List.getElem?_toArray, List.getElem?_cons_succ, List.getElem?_cons_zero]; rfl)
    case hq28 => exact fun _ _ _ h => h
    case hy28 => (refine Or.inl ⟨by rfl, ?_⟩; intro W hSw; (try dsimp only at hSw); skip; go_simp; (try with_reducible rfl))
    try simp only [Act.put, List.setIfInBounds_toArray, List.set_cons_zero, List.set_cons_succ]
    refine wpAnyK_take (i := 5) (n := 12) (oi := ?oi29) (v := ?v29) ?hi29 (by kernel_rfl) (by kernel_rfl) (by kernel_rfl) (by kernel_rfl) ?hq29 ?hy29 (by assumption) ?rest29
    case hi29 => (simp only [List.getElem?_toArray, List.getElem?_cons_succ, List.getElem?_cons_zero]; rfl)
    case hq29 => exact fun _ _ _ h => h
    case hy29 => (refine Or.inl ⟨by rfl, ?_⟩; intro W hSw; (try dsimp only at hSw); skip; go_simp; (try with_reducible rfl))
    try simp only [Act.put, List.setIfInBounds_toArray, List.set_cons_zero, List.set_cons_succ]
    refine wpAnyK_take (i := 6) (n := 12) (oi := ?oi30) (v := ?v30) ?hi30 (by kernel_rfl) (by kernel_rfl) (by kernel_rfl) (by kernel_rfl) ?hq30 ?hy30 (by assumption) ?rest30
    case hi30 => (simp only [List.getElem?_toArray, List.getElem?_cons_succ, List.getElem?_cons_zero]; rfl)
    case hq30 => exact fun _ _ _ h => h
    case hy30 => (refine Or.inl ⟨by rfl, ?_⟩; intro W hSw; (try dsimp only at hSw); skip; go_simp; (try with_reducible rfl))
    try simp only [Act.put, List.setIfInBounds_toArray, List.set_cons_zero, List.set_cons_succ]
    refine wpAnyK_take (i := 7) (n := 12) (oi := ?oi31) (v := ?v31) ?hi31 (by kernel_rfl) (by kernel_rfl) (by kernel_rfl) (by kernel_rfl) ?hq31 ?hy31 (by assumption) ?rest31
    case hi31 => (simp only [List.getElem?_toArray, List.getElem?_cons_succ, List.getElem?_cons_zero]; rfl)
    case hq31 => exact fun _ _ _ h => h
    case hy31 => (refine Or.inl ⟨by rfl, ?_⟩; intro W hSw; (try dsimp only at hSw); skip; go_simp; (try with_reducible rfl))
    try simp only [Act.put, List.setIfInBounds_toArray, List.set_cons_zero, List.set_cons_succ]
    refine wpAnyK_take (i := 8) (n := 12) (oi := ?oi32) (v := ?v32) ?hi32 (by kernel_rfl) (by kernel_rfl) (by kernel_rfl) (by kernel_rfl) ?hq32 ?hy32 (by assumption) ?rest32
    case hi32 => (simp only [List.getElem?_toArray, List.getElem?_cons_succ, List.getElem?_cons_zero]; rfl)
    case hq32 => exact fun _ _ _ h => h
    case hy32 => (refine Or.inl ⟨by rfl, ?_⟩; intro W hSw; (try dsimp only at hSw); skip; go_simp; (try with_reducible rfl))
    try simp only [Act.put, List.setIfInBounds_toArray, List.set_cons_zero, List.set_cons_succ]
    refine wpAnyK_take (i := 9) (n := 12) (oi := ?oi33) (v := ?v33) ?hi33 (by kernel_rfl) (by kernel_rfl) (by kernel_rfl) (by kernel_rfl) ?hq33 ?hy33 (by assumption) ?rest33
    case hi33 => (simp only [List.getElem?_toArray, List.getElem?_cons_succ, List.getElem?_cons_zero]; rfl)
    case hq33 => exact fun _ _ _ h => h
    case hy33 => (refine Or.inl ⟨by rfl, ?_⟩; intro W hSw; (try dsimp only at hSw); skip; go_simp; (try with_reducible rfl))
    try simp only [Act.put, List.setIfInBounds_toArray, List.set_cons_zero, List.set_cons_succ]
    refine wpAnyK_take (i := 10) (n := 12) (oi := ?oi34) (v := ?v34) ?hi34 (by kernel_rfl) (by kernel_rfl) (by kernel_rfl) (by kernel_rfl) ?hq34 ?hy34 (by assumption) ?rest34
    case hi34 => (simp only [List.getElem?_toArray, List.getElem?_cons_succ, List.getElem?_cons_zero]; rfl)
    case hq34 => exact fun _ _ _ h => h
    case hy34 => (refine Or.inl ⟨by rfl, ?_⟩; intro W hSw; (try dsimp only at hSw); skip; go_simp; (try with_reducible rfl))
    try simp only [Act.put, List.setIfInBounds_toArray, List.set_cons_zero, List.set_cons_succ]
    refine wpAnyK_take (i := 11) (n := 12) (oi := ?oi35) (v := ?v35) ?hi35 (by kernel_rfl) (by kernel_rfl) (by kernel_rfl) (by kernel_rfl) ?hq35 ?hy35 (by assumption) ?rest35
    case hi35 => (simp only [List.getElem?_toArray, List.getElem?_cons_succ, List.getElem?_cons_zero]; rfl)
    case hq35 => exact fun _ _ _ h => h
    case hy35 => (refine Or.inl ⟨by rfl, ?_⟩; intro W hSw; (try dsimp only at hSw); skip; go_simp; (try with_reducible rfl))
    try simp only [Act.put, List.setIfInBounds_toArray, List.set_cons_zero, List.set_cons_succ]
    refine wpAnyK_lasts [13, 14, 15] (by kernel_rfl) (by rfl) (by rfl) ?_
    simp only [List.filterMap_cons, List.filterMap_nil, List.getElem?_toArray, List.getElem?_cons_succ, List.getElem?_cons_zero]
    refine wpList_step fun K hK0 => ?_
    have hK := Lib.hid hK0
    clear hK0
    rw [if_pos (by rfl)]
    go_simp
    refine (HCL.out _ (Below.refl _ _).drew).mono ?_
    rintro e w4 ⟨v4, rfl, hb4, ⟨a4, q4, e4⟩, hng4, hrow4⟩
    rw [HKK.out.2] at e4
    subst e4
    have HB4 := Lib.hid ((Below.refl w3.heap.size w3).drew.trans hb4)
    have HRW4 := Lib.hid (hrow4 (11 + 10 * i))
    have HP4 := Lib.hid (HP3.out.below HB4.out HP3.out.lt)
    clear hb4 hng4 hrow4
    have y10 := HP4.out.cell 10 rfl
    have f10 := HP4.out.frozen 10
    go_wp2_with fail
    refine hK.out _ _ ?_
    clear hK
    try simp only [Act.put, List.setIfInBounds_toArray, List.set_cons_zero, List.set_cons_succ]
    refine wpList_step fun K hK => ?_
    rw [if_pos (by rfl)]
    go_simp
    refine hK _ _ ?_
    clear hK
    try simp only [Act.put, List.setIfInBounds_toArray, List.set_cons_zero, List.set_cons_succ]
    refine wpList_step fun K hK => ?_
    rw [if_pos (by rfl)]
    go_simp
    refine hK _ _ ?_
    clear hK
    try simp only [Act.put, List.setIfInBounds_toArray, List.set_cons_zero, List.set_cons_succ]
    refine wpList_step fun K hK => ?_
    rw [if_pos (by rfl)]
    go_simp
    refine hK _ _ ?_
    clear hK
    try simp only [Act.put, List.setIfInBounds_toArray, List.set_cons_zero, List.set_cons_succ]
    clear y10 f10 hHeld1 hwr hsl
    have HP5 : Hid (Blk (w4.setCell ⟨p, 10, none⟩ (.slice a4 (r.log.length - kk) q4)) p 94 (rpC { r with td := r.cm, log := r.log.drop kk } (.slice a4 (r.log.length - kk) q4) hv xv sv uv)) := Lib.hid (HP4.out.set 10 _)
    have HPS5 : Hid (Ps p w4 (w4.setCell ⟨p, 10, none⟩ (.slice a4 (r.log.length - kk) q4))) := Lib.hid ((Ps.refl p w4).set _ _)
    have y5 : w4.cell? ⟨p, 5, none⟩ = some (.int .i64 (r.bs : Int)) := HP4.out.cell 5 rfl
    have f5 := HP4.out.frozen 5
    obtain ⟨c5, hc5⟩ : ∃ c5, c5 = c1.row (.slice a4 (r.log.length - kk) q4) (11 + 10 * i) := ⟨_, rfl⟩
    have hlx5 : Lx w3 c1 c5 := by rw [hc5]; exact HRW4.out.1
    have hrow5 : Row (opE 1) c5 (11 + 10 * i) w4 (.slice a4 (r.log.length - kk) q4) (r.log.drop kk) := by rw [hc5]; exact HRW4.out.2
    obtain ⟨w6, hw6⟩ : ∃ w6, w6 = (w4.setCell ⟨p, 10, none⟩ (.slice a4 (r.log.length - kk) q4)).setCell ⟨p, 5, none⟩ (.int .i64 (to : Int)) := ⟨_, rfl⟩
    have hps6 : Ps p w4 w6 := by rw [hw6]; exact HPS5.out.set _ _
    have hc5p : c5 p = 10 + 10 * i := (hlx5 p HP3.out.lt).trans HX1.out.2.2.2
    have hr4 : RP i c5 w4 { r with td := r.cm } (.slice la r.log.length lc) hv xv sv uv := HR3.out.below hlx5 HB4.out
    have hr6 := hr4.ps hc5p hps6
    have HD : Hid (∃ c', Lx w c c' ∧ Fr (Fi i) c w w6 ∧ RV i c' w6 p (told r) ∧ SlR (opE 1) c' 1 w6 (.slice a1 (m - k) q1) ((r.log.take m).drop k)) := Lib.hid (by
      have hf6 : Fr (Fi i) c5 w4 w6 := hps6.fr (by rw [hc5p]; exact Fi_0 i)
      have hf36 : Fr (Fi i) c1 w3 w6 := (Fr.of_below HB4.out).trans hlx5 hf6
      refine ⟨c5, HX1.out.1.trans hlx5 HF3.out.size, HF3.out.trans HX1.out.1 hf36, ?_, HS3.out.fr (opE_ok 1) hlx5 hf36 fun k hk => by
        have : k = 1 := by rcases hk with hk | hk <;> exact hk
        unfold Fi; omega⟩
      have ht : told r = { r with td := r.cm, log := r.log.drop kk, bs := to } := by
        unfold told
        rw [if_pos (by rw [← HTO.out]; exact HTB.out), if_pos (by rw [← HTO.out]; exact HTB.out), ← HTO.out, ← HKK.out.1]
      rw [ht]
      refine ⟨hc5p, _, hv, xv, sv, uv, by rw [hw6]; exact HP5.out.set 5 _, ?_, hr6.hv, hr6.of, hr6.sv, hr6.ou⟩
      refine hrow5.keep (opE_ok 1) (Lx.refl _ _) fun g hg hl => hps6.heap g fun e => ?_
      rw [e, hc5p] at hl
      rcases hl with hl | hl
      · have : 10 + 10 * i = 1 := hl
        omega
      · omega)
    rw [hw6] at HD
    clear hc5 hlx5 hrow5 hw6 hps6 hc5p hr4 hr6
    go_wp2_with fail
    go_ret
    obtain ⟨c', h1, h2, h3, h4⟩ := HD.out
    exact ⟨_, rfl, c', h1, h2, h3, h4⟩
end Go.Proofs.YtdmjegelcdghlaaGreat.Vw
