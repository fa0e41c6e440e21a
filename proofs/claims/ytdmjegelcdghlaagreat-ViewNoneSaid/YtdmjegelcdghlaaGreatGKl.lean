/-
  Chapter 22: the reference's Same, of lists of ops that are the same.
  (Texts put together: Kl.)
-/
import Derived.Test.YtdmjegelcdghlaaGreatGKk
import Derived.Test.YtdmjegelcdghlaaGreatGPl
namespace Go.Proofs.YtdmjegelcdghlaaGreat.Vw
open Go.RowKit Go.Maps
set_option linter.unusedVariables false
set_option linter.unusedSimpArgs false
set_option maxRecDepth 100000

theorem SlR.at {li lo : Nat} {c : Lb} {w : World} {v : Value} {l : List Op} (h : SlR (opE li) c lo w v l) {k : Nat} {o : Op} (hk : l[k]? = some o) :
    ∃ b off cap ua uc, v = .slice (some ⟨b, off, none⟩) l.length cap ∧ RdS w (.slice ua o.c.sco.length uc) o.c.sco ∧ Gr.CmOk o.c ∧ ∀ W, Below w.heap.size w W → ∀ (q : Nat) x, (opC o (.slice ua o.c.sco.length uc))[q]? = some x → W.cell? ⟨b, off + k * 16 + q, none⟩ = some x := by
  obtain ⟨b, off, cap, u, hv, hin, hc⟩ := h.get (opE_ok li) hk
  have hin' : TxA li c w u o := hin
  obtain ⟨ua, uc, e⟩ := hin'.rd.1.slice
  subst e
  refine ⟨b, off, cap, ua, uc, hv, hin'.rd, hin'.ok, fun W hb q x hx => ?_⟩
  have h1 := hc q x hx
  have h2 := World.block_lt_of_cell? w _ h1
  have h3 := hb.block _ h2
  simp only [World.cell?, h3] at h1 ⊢
  exact h1
set_option maxHeartbeats 8000000 in
theorem ops_same {li lj lo lp : Nat} {c : Lb} (l : List Op) (va vb : Value) (w : World) (ha : SlR (opE li) c lo w va l) (hb : SlR (opE lj) c lp w vb l) (hl : l.length ≤ 1000000) :
    Calls Tryz.prog 22 #[va, vb] w fun e w' => e = .returned (.bool true) ∧ Below w.heap.size w w' := by
  obtain ⟨a1, c1, rfl⟩ := ha.slice
  obtain ⟨a2, c2, rfl⟩ := hb.slice
  have HA := Lib.hid ha
  have HB := Lib.hid hb
  clear ha hb
  go_enter Tryz.func22, Tryz.ntmps22
  go_wp2_with fail
  go_loopw [5] (fun i wr => ∃ k : Nat, k ≤ l.length ∧ i = .int .i64 k ∧ Below w.heap.size w wr) (fun i _ => l.length - (intOf i).toNat)
  case atStart => exact ⟨0, by omega, rfl, Below.refl _ _⟩
  case round =>
    obtain ⟨k, hk, rfl, hbr⟩ := hrel
    by_cases hkn : k < l.length
    case neg =>
      go_wp2_with fail
      go_ret
      exact ⟨rfl, hbr⟩
    case pos =>
    obtain ⟨o, ho⟩ : ∃ o, l[k]? = some o := ⟨_, List.getElem?_eq_getElem hkn⟩
    obtain ⟨b1, o1, p1, ua, uac, e1, hra, hok, hza⟩ := HA.out.at ho
    obtain ⟨b2, o2, p2, ub, ubc, e2, hrb, -, hzb⟩ := HB.out.at ho
    cases e1
    cases e2
    have HZA : Hid (∀ W, Below w.heap.size w W → ∀ (q : Nat) x, (opC o (.slice ua o.c.sco.length uac))[q]? = some x → W.cell? ⟨b1, o1 + k * 16 + q, none⟩ = some x) := Lib.hid hza
    have HZB : Hid (∀ W, Below w.heap.size w W → ∀ (q : Nat) x, (opC o (.slice ub o.c.sco.length ubc))[q]? = some x → W.cell? ⟨b2, o2 + k * 16 + q, none⟩ = some x) := Lib.hid hzb
    have HSO : Hid (∀ W, Below w.heap.size w W → Calls Tryz.prog 29 #[opV o (.slice ua o.c.sco.length uac), opV o (.slice ub o.c.sco.length ubc)] W fun e w' => e = .returned (.bool true) ∧ Below W.heap.size W w') := Lib.hid fun W hb => op_same o _ _ W (rdS_low hra fun h0 g hg hlt => hb.block g hlt) (rdS_low hrb fun h0 g hg hlt => hb.block g hlt) (by have := hok.sco; omega)
    have g1 : (k : Int) < (l.length : Int) := by omega
    clear hra hok hza hrb hzb ho
    unfold opV at HSO
    go_upto_region 6 with fail
    refine wp_region_U (S := (fun W => Below w.heap.size w W)) (by kernel_rfl) ?_ ?_
    · exact hbr.drew
    refine wpU_take (i := 0) (oi := ?oi1) (v := ?v1) ?hi1 (by kernel_rfl) (by kernel_rfl) (by kernel_rfl) ?hy1 ?rest1
    case hi1 => (simp only [List.getElem?_toArray, List.getElem?_cons_succ, List.getElem?_cons_zero]; rfl)
    case hy1 => (refine Or.inl ⟨by rfl, ?_⟩; intro W hSw; (try dsimp only at hSw); go_simp; (try with_reducible rfl))
    try simp only [Act.put, List.setIfInBounds_toArray, List.set_cons_zero, List.set_cons_succ]
    refine wpU_take (i := 1) (oi := ?oi2) (v := ?v2) ?hi2 (by kernel_rfl) (by kernel_rfl) (by kernel_rfl) ?hy2 ?rest2
    case hi2 => (simp only [List.getElem?_toArray, List.getElem?_cons_succ, List.getElem?_cons_zero]; rfl)
    case hy2 => (refine Or.inl ⟨by rfl, ?_⟩; intro W hSw; (try dsimp only at hSw); go_simp; (try with_reducible rfl))
    try simp only [Act.put, List.setIfInBounds_toArray, List.set_cons_zero, List.set_cons_succ]
    refine wpU_take (i := 2) (oi := ?oi3) (v := ?v3) ?hi3 (by kernel_rfl) (by kernel_rfl) (by kernel_rfl) ?hy3 ?rest3
    case hi3 => (simp only [List.getElem?_toArray, List.getElem?_cons_succ, List.getElem?_cons_zero]; rfl)
    case hy3 => (refine Or.inl ⟨by rfl, ?_⟩; intro W hSw; (try dsimp only at hSw); go_simp; (try with_reducible rfl))
    try simp only [Act.put, List.setIfInBounds_toArray, List.set_cons_zero, List.set_cons_succ]
    refine wpU_take (i := 3) (oi := ?oi4) (v := ?v4) ?hi4 (by kernel_rfl) (by kernel_rfl) (by kernel_rfl) ?hy4 ?rest4
    case hi4 => (simp only [List.getElem?_toArray, List.getElem?_cons_succ, List.getElem?_cons_zero]; rfl)
    case hy4 => (refine Or.inl ⟨by rfl, ?_⟩; intro W hSw; (have z0 := HZA.out W hSw 0 _ rfl); (have z1 := HZA.out W hSw 1 _ rfl); (have z2 := HZA.out W hSw 2 _ rfl); (have z3 := HZA.out W hSw 3 _ rfl); (have z4 := HZA.out W hSw 4 _ rfl); (have z5 := HZA.out W hSw 5 _ rfl); (have z6 := HZA.out W hSw 6 _ rfl); (have z7 := HZA.out W hSw 7 _ rfl); (have z8 := HZA.out W hSw 8 _ rfl); (have z9 := HZA.out W hSw 9 _ rfl); (have z10 := HZA.out W hSw 10 _ rfl); (have z11 := HZA.out W hSw 11 _ rfl); (have z12 := HZA.out W hSw 12 _ rfl); (have z13 := HZA.out W hSw 13 _ rfl); (have z14 := HZA.out W hSw 14 _ rfl); (have z15 := HZA.out W hSw 15 _ rfl); (try rw [Nat.add_zero] at z0); (clear hSw); go_simp; (try with_reducible rfl))
    try simp only [Act.put, List.setIfInBounds_toArray, List.set_cons_zero, List.set_cons_succ]
    refine wpU_take (i := 4) (oi := ?oi5) (v := ?v5) ?hi5 (by kernel_rfl) (by kernel_rfl) (by kernel_rfl) ?hy5 ?rest5
    case hi5 => (simp only [List.getElem?_toArray, List.getElem?_cons_succ, List.getElem?_cons_zero]; rfl)
    case hy5 => (refine Or.inl ⟨by rfl, ?_⟩; intro W hSw; (try dsimp only at hSw); go_simp; (try with_reducible rfl))
    try simp only [Act.put, List.setIfInBounds_toArray, List.set_cons_zero, List.set_cons_succ]
    refine wpU_take (i := 5) (oi := ?oi6) (v := ?v6) ?hi6 (by kernel_rfl) (by kernel_rfl) (by kernel_rfl) ?hy6 ?rest6
    case hi6 => (simp only [List.getElem?_toArray, List.getElem?_cons_succ, List.getElem?_cons_zero]; rfl)
    case hy6 => (refine Or.inl ⟨by rfl, ?_⟩; intro W hSw; (try dsimp only at hSw); go_simp; (try with_reducible rfl))
    try simp only [Act.put, List.setIfInBounds_toArray, List.set_cons_zero, List.set_cons_succ]
    refine wpU_take (i := 6) (oi := ?oi7) (v := ?v7) ?hi7 (by kernel_rfl) (by kernel_rfl) (by kernel_rfl) ?hy7 ?rest7
    case hi7 => (simp only [List.getElem?_toArray, List.getElem?_cons_succ, List.getElem?_cons_zero]; rfl)
    case hy7 => (refine Or.inl ⟨by rfl, ?_⟩; intro W hSw; (try dsimp only at hSw); go_simp; (try with_reducible rfl))
    try simp only [Act.put, List.setIfInBounds_toArray, List.set_cons_zero, List.set_cons_succ]
    refine wpU_take (i := 7) (oi := ?oi8) (v := ?v8) ?hi8 (by kernel_rfl) (by kernel_rfl) (by kernel_rfl) ?hy8 ?rest8
    case hi8 => (simp only [List.getElem?_toArray, List.getElem?_cons_succ, List.getElem?_cons_zero]; rfl)
    case hy8 => (refine Or.inl ⟨by rfl, ?_⟩; intro W hSw; (have z0 := HZB.out W hSw 0 _ rfl); (have z1 := HZB.out W hSw 1 _ rfl); (have z2 := HZB.out W hSw 2 _ rfl); (have z3 := HZB.out W hSw 3 _ rfl); (have z4 := HZB.out W hSw 4 _ rfl); (have z5 := HZB.out W hSw 5 _ rfl); (have z6 := HZB.out W hSw 6 _ rfl); (have z7 := HZB.out W hSw 7 _ rfl); (have z8 := HZB.out W hSw 8 _ rfl); (have z9 := HZB.out W hSw 9 _ rfl); (have z10 := HZB.out W hSw 10 _ rfl); (have z11 := HZB.out W hSw 11 _ rfl); (have z12 := HZB.out W hSw 12 _ rfl); (have z13 := HZB.out W hSw 13 _ rfl); (have z14 := HZB.out W hSw 14 _ rfl); (have z15 := HZB.out W hSw 15 _ rfl); (try rw [Nat.add_zero] at z0); (clear hSw); go_simp; (try with_reducible rfl))
    try simp only [Act.put, List.setIfInBounds_toArray, List.set_cons_zero, List.set_cons_succ]
    refine wpU_take (i := 8) (oi := ?oi9) (v := .bool true) ?hi9 (by kernel_rfl) (by kernel_rfl) (by kernel_rfl) ?hy9 ?rest9
    case hi9 => (simp only [List.getElem?_toArray, List.getElem?_cons_succ, List.getElem?_cons_zero]; rfl)
    case hy9 =>
      refine Or.inr (Or.inr (Or.inl ⟨by rfl, 29, #[.agg #[.int .i64 o.ed, .int .i64 o.sq, .int .i64 o.lo, .int .i64 o.c.kd, .string ⟨o.c.fam.toArray⟩, .int .i64 o.c.ser, .int .i64 o.c.tok, .string ⟨o.c.cli.toArray⟩, .string ⟨o.c.usr.toArray⟩, .slice ua o.c.sco.length uac, .string ⟨o.c.red.toArray⟩, .string ⟨o.c.cha.toArray⟩, .string ⟨o.c.met.toArray⟩, .string ⟨o.c.ver.toArray⟩, .bool o.c.rf, .int .i64 o.c.edg], .agg #[.int .i64 o.ed, .int .i64 o.sq, .int .i64 o.lo, .int .i64 o.c.kd, .string ⟨o.c.fam.toArray⟩, .int .i64 o.c.ser, .int .i64 o.c.tok, .string ⟨o.c.cli.toArray⟩, .string ⟨o.c.usr.toArray⟩, .slice ub o.c.sco.length ubc, .string ⟨o.c.red.toArray⟩, .string ⟨o.c.cha.toArray⟩, .string ⟨o.c.met.toArray⟩, .string ⟨o.c.ver.toArray⟩, .bool o.c.rf, .int .i64 o.c.edg]], fun W hSw => (by go_simp), fun W hSw => ?_⟩))
      exact (HSO.out W hSw).mono fun e w' h => ⟨h.1, hSw.trans (h.2.mono hSw.size)⟩
    try simp only [Act.put, List.setIfInBounds_toArray, List.set_cons_zero, List.set_cons_succ]
    refine wpU_take (i := 9) (oi := ?oi10) (v := ?v10) ?hi10 (by kernel_rfl) (by kernel_rfl) (by kernel_rfl) ?hy10 ?rest10
    case hi10 => (simp only [List.getElem?_toArray, List.getElem?_cons_succ, List.getElem?_cons_zero]; rfl)
    case hy10 => (refine Or.inl ⟨by rfl, ?_⟩; intro W hSw; (try dsimp only at hSw); go_simp; (try with_reducible rfl))
    try simp only [Act.put, List.setIfInBounds_toArray, List.set_cons_zero, List.set_cons_succ]
    refine wpU_done (by kernel_rfl) ?_ _
    intro wy hSw
    have HBY := Lib.hid hSw
    clear hSw hbr
    go_wp2_with fail
    go_roundw
    case rel => exact ⟨k + 1, by omega, by go_num, HBY.out⟩
    case measure => simp [intOf]; omega
end Go.Proofs.YtdmjegelcdghlaaGreat.Vw
