/-
  Chapter 10: signetref01.Same; both plates in one memory. Printed by gen_plate_same.py.
-/
import Derived.Test.YtclaahailnpdoaaBq
namespace Go.Proofs.Ytclaahailnpdoaa.Pt
open Go.RowKit Go.Maps
set_option linter.unusedVariables false
set_option linter.unusedSimpArgs false

theorem bc_at {a : By} {k : Nat} {c : UInt8} (h : a[k]? = some c) : (Lib.byteCells a)[k]? = some (.int .u8 (c.toNat : Int)) := by
  unfold Lib.byteCells; rw [List.getElem?_map, h]; rfl
theorem take_eq_succ {a b : By} {k : Nat} {c : UInt8} (h : a.take k = b.take k) (ha : a[k]? = some c) (hb : b[k]? = some c) : a.take (k + 1) = b.take (k + 1) := by
  rw [List.take_add_one, List.take_add_one, h, ha, hb]
set_option maxRecDepth 20000 in
set_option maxHeartbeats 2000000 in
theorem same_any (a b : By) (va vb : Value) (w : World) (ha : Rd w 1 va a.length (Lib.byteCells a)) (hb : Rd w 1 vb b.length (Lib.byteCells b)) (hl : a.length ≤ 4611686018427387904) :
    Calls Try.prog 19 #[va, vb] w fun e w' => e = .returned (.bool (decide (a = b))) ∧ Below w.heap.size w w' := by
  obtain ⟨xa, ca, rfl⟩ := ha.slice
  obtain ⟨xb, cb, rfl⟩ := hb.slice
  have HAB := Lib.hid (And.intro ha hb)
  clear ha hb
  by_cases hlen : a.length = b.length
  case neg =>
    have t0 : ((a.length : Int) == (b.length : Int)) = false := by rw [beq_eq_false_iff_ne]; omega
    have t1 : ¬ (a.length : Int) = (b.length : Int) := by omega
    have hr : decide (a = b) = false := decide_eq_false (fun e => hlen (by rw [e]))
    rw [hr]
    clear hr hlen
    go_enter Try.func19, Try.ntmps19
    go_wp2
    go_ret
    exact ⟨rfl, Below.refl _ _⟩
  case pos =>
    obtain ⟨R, hR⟩ : ∃ R, R = decide (a = b) := ⟨_, rfl⟩
    rw [← hR]
    have HR := Lib.hid hR
    clear hR
    obtain ⟨n, hn⟩ : ∃ n, n = a.length := ⟨_, rfl⟩
    rw [← hlen]
    rw [← hn] at hl ⊢
    have HN := Lib.hid (And.intro hn hlen)
    clear hn hlen
    have hself := Below.refl w.heap.size w
    go_enter Try.func19, Try.ntmps19
    go_wp2_with fail
    go_loopw [5] (fun i wr => ∃ k : Nat, k ≤ n ∧ i = .int .i64 (k : Int) ∧ a.take k = b.take k ∧ Below w.heap.size w wr) (fun i _ => n - (intOf i).toNat)
    case atStart => exact ⟨0, Nat.zero_le _, rfl, rfl, hself⟩
    case round =>
      clear hself
      obtain ⟨k, hk, rfl, htk, hb⟩ := hrel
      by_cases hkn : k < n
      case neg =>
        have hk' : k = n := by omega
        subst hk'
        have HE : Hid (R = true) := Lib.hid (by
          rw [HR.out]
          refine decide_eq_true ?_
          have h1 := HN.out.1
          have h2 := HN.out.2
          rw [List.take_of_length_le (by omega), List.take_of_length_le (by omega)] at htk
          exact htk)
        clear htk
        go_wp2_with fail
        go_ret
        exact ⟨by rw [HE.out]; rfl, hb⟩
      case pos =>
      obtain ⟨x, hx⟩ : ∃ x, a[k]? = some x := ⟨_, List.getElem?_eq_getElem (by have := HN.out.1; omega)⟩
      obtain ⟨y, hy⟩ : ∃ y, b[k]? = some y := ⟨_, List.getElem?_eq_getElem (by have h1 := HN.out.1; have h2 := HN.out.2; omega)⟩
      have hla : 0 < a.length := by have := HN.out.1; omega
      have hlb : 0 < b.length := by have := HN.out.2; omega
      obtain ⟨b1, o1, cap1, e1, hcap1, hc1⟩ := (HAB.out.1.below hb).pos hla
      obtain ⟨b2, o2, cap2, e2, hcap2, hc2⟩ := (HAB.out.2.below hb).pos hlb
      cases e1
      cases e2
      have q1 := hc1 _ _ (bc_at hx)
      have q2 := hc2 _ _ (bc_at hy)
      have g1 : (k : Int) < (n : Int) := by omega
      have g2 : k < n := hkn
      have HX := Lib.hid (And.intro hx (And.intro hy htk))
      have HB := Lib.hid hb
      obtain ⟨cx, hcx⟩ : ∃ cx : Int, cx = (x.toNat : Int) := ⟨_, rfl⟩
      obtain ⟨cy, hcy⟩ : ∃ cy : Int, cy = (y.toNat : Int) := ⟨_, rfl⟩
      rw [← hcx] at q1
      rw [← hcy] at q2
      have HCC := Lib.hid (And.intro hcx hcy)
      clear hx hy hc1 hc2 hla hlb hb htk hcx hcy hcap1 hcap2
      by_cases hxy : cx = cy
      case pos =>
        rw [← hxy] at q2 HCC
        clear hxy
        have HNX : Hid (a.take (k + 1) = b.take (k + 1)) := Lib.hid (by
          have e : x = y := by have h1 := HCC.out.1; have h2 := HCC.out.2; exact UInt8.toNat_inj.1 (by omega)
          exact take_eq_succ HX.out.2.2 HX.out.1 (by rw [e]; exact HX.out.2.1))
        go_wp2_with fail
        refine wp_region_U (S := (fun W => W.cell? ⟨b1, o1 + k, none⟩ = some (.int .u8 cx) ∧ W.cell? ⟨b2, o2 + k, none⟩ = some (.int .u8 cx) ∧ Below wr.heap.size wr W)) (by kernel_rfl) ?_ ?_
        · exact ⟨q1, q2, (Below.refl _ _).drew⟩
        refine wpU_take (i := 0) (oi := ?oi1) (v := ?v1) ?hi1 (by kernel_rfl) (by kernel_rfl) (by kernel_rfl) ?hy1 ?rest1
        case hi1 => (simp only [List.getElem?_toArray, List.getElem?_cons_succ, List.getElem?_cons_zero]; rfl)
        case hy1 => (refine Or.inl ⟨by rfl, ?_⟩; intro W hSw; (try dsimp only at hSw); go_simp; (try with_reducible rfl))
        try simp only [Act.put, List.setIfInBounds_toArray, List.set_cons_zero, List.set_cons_succ]
        refine wpU_take (i := 1) (oi := ?oi2) (v := ?v2) ?hi2 (by kernel_rfl) (by kernel_rfl) (by kernel_rfl) ?hy2 ?rest2
        case hi2 => (simp only [List.getElem?_toArray, List.getElem?_cons_succ, List.getElem?_cons_zero]; rfl)
        case hy2 => (refine Or.inl ⟨by rfl, ?_⟩; intro W hSw; (try dsimp only at hSw); go_simp; (try with_reducible rfl))
        try simp only [Act.put, List.setIfInBounds_toArray, List.set_cons_zero, List.set_cons_succ]
        refine wpU_take (i := 2) (oi := ?oi3) (v := ?v3) ?hi3 (by kernel_rfl) (by kernel_rfl) (by kernel_rfl) ?hy3 ?rest3
        case hi3 => (simp only [List.getElem?_toArray, List.getElem?_cons_succ, List.getElem?_cons_zero]; rfl)
        case hy3 => (refine Or.inl ⟨by rfl, ?_⟩; intro W hSw; (try dsimp only at hSw); go_simp; (try with_reducible rfl))
        try simp only [Act.put, List.setIfInBounds_toArray, List.set_cons_zero, List.set_cons_succ]
        refine wpU_take (i := 3) (oi := ?oi4) (v := ?v4) ?hi4 (by kernel_rfl) (by kernel_rfl) (by kernel_rfl) ?hy4 ?rest4
        case hi4 => (simp only [List.getElem?_toArray, List.getElem?_cons_succ, List.getElem?_cons_zero]; rfl)
        case hy4 => (refine Or.inl ⟨by rfl, ?_⟩; intro W hSw; (try dsimp only at hSw); go_simp; (try with_reducible rfl))
        try simp only [Act.put, List.setIfInBounds_toArray, List.set_cons_zero, List.set_cons_succ]
        refine wpU_take (i := 4) (oi := ?oi5) (v := ?v5) ?hi5 (by kernel_rfl) (by kernel_rfl) (by kernel_rfl) ?hy5 ?rest5
        case hi5 => (simp only [List.getElem?_toArray, List.getElem?_cons_succ, List.getElem?_cons_zero]; rfl)
        case hy5 => (refine Or.inl ⟨by rfl, ?_⟩; intro W hSw; (try dsimp only at hSw); go_simp; (try with_reducible rfl))
        try simp only [Act.put, List.setIfInBounds_toArray, List.set_cons_zero, List.set_cons_succ]
        refine wpU_take (i := 5) (oi := ?oi6) (v := ?v6) ?hi6 (by kernel_rfl) (by kernel_rfl) (by kernel_rfl) ?hy6 ?rest6
        case hi6 => (simp only [List.getElem?_toArray, List.getElem?_cons_succ, List.getElem?_cons_zero]; rfl)
        case hy6 => (refine Or.inl ⟨by rfl, ?_⟩; intro W hSw; (try dsimp only at hSw); go_simp; (try with_reducible rfl))
        try simp only [Act.put, List.setIfInBounds_toArray, List.set_cons_zero, List.set_cons_succ]
        refine wpU_take (i := 6) (oi := ?oi7) (v := ?v7) ?hi7 (by kernel_rfl) (by kernel_rfl) (by kernel_rfl) ?hy7 ?rest7
        case hi7 => (simp only [List.getElem?_toArray, List.getElem?_cons_succ, List.getElem?_cons_zero]; rfl)
        case hy7 => (refine Or.inl ⟨by rfl, ?_⟩; intro W hSw; (try dsimp only at hSw); go_simp; (try with_reducible rfl))
        try simp only [Act.put, List.setIfInBounds_toArray, List.set_cons_zero, List.set_cons_succ]
        refine wpU_take (i := 7) (oi := ?oi8) (v := ?v8) ?hi8 (by kernel_rfl) (by kernel_rfl) (by kernel_rfl) ?hy8 ?rest8
        case hi8 => (simp only [List.getElem?_toArray, List.getElem?_cons_succ, List.getElem?_cons_zero]; rfl)
        case hy8 => (refine Or.inl ⟨by rfl, ?_⟩; intro W hSw; (try dsimp only at hSw); go_simp; (try with_reducible rfl))
        try simp only [Act.put, List.setIfInBounds_toArray, List.set_cons_zero, List.set_cons_succ]
        refine wpU_take (i := 8) (oi := ?oi9) (v := ?v9) ?hi9 (by kernel_rfl) (by kernel_rfl) (by kernel_rfl) ?hy9 ?rest9
        case hi9 => (simp only [List.getElem?_toArray, List.getElem?_cons_succ, List.getElem?_cons_zero]; rfl)
        case hy9 => (refine Or.inl ⟨by rfl, ?_⟩; intro W hSw; (try dsimp only at hSw); go_simp; (try with_reducible rfl))
        try simp only [Act.put, List.setIfInBounds_toArray, List.set_cons_zero, List.set_cons_succ]
        refine wpU_done (by kernel_rfl) ?_ _
        intro W hSw
        go_wp2_with fail
        go_roundw
        case rel => exact ⟨k + 1, by omega, by go_num, HNX.out, HB.out.trans ((hSw.2.2).mono HB.out.size)⟩
        case measure => simp [intOf]; omega
      case neg =>
        have HNX : Hid (R = false) := Lib.hid (by
          rw [HR.out]
          refine decide_eq_false (fun e => hxy ?_)
          have h1 := HX.out.1
          rw [e, HX.out.2.1] at h1
          rw [HCC.out.1, HCC.out.2]
          cases h1; rfl)
        have t0 : (cx == cy) = false := by rw [beq_eq_false_iff_ne]; exact hxy
        go_wp2_with fail
        refine wp_region_U (S := (fun W => W.cell? ⟨b1, o1 + k, none⟩ = some (.int .u8 cx) ∧ W.cell? ⟨b2, o2 + k, none⟩ = some (.int .u8 cy) ∧ Below wr.heap.size wr W)) (by kernel_rfl) ?_ ?_
        · exact ⟨q1, q2, (Below.refl _ _).drew⟩
        refine wpU_take (i := 0) (oi := ?oi10) (v := ?v10) ?hi10 (by kernel_rfl) (by kernel_rfl) (by kernel_rfl) ?hy10 ?rest10
        case hi10 => (simp only [List.getElem?_toArray, List.getElem?_cons_succ, List.getElem?_cons_zero]; rfl)
        case hy10 => (refine Or.inl ⟨by rfl, ?_⟩; intro W hSw; (try dsimp only at hSw); go_simp; (try with_reducible rfl))
        try simp only [Act.put, List.setIfInBounds_toArray, List.set_cons_zero, List.set_cons_succ]
        refine wpU_take (i := 1) (oi := ?oi11) (v := ?v11) ?hi11 (by kernel_rfl) (by kernel_rfl) (by kernel_rfl) ?hy11 ?rest11
        case hi11 => (simp only [List.getElem?_toArray, List.getElem?_cons_succ, List.getElem?_cons_zero]; rfl)
        case hy11 => (refine Or.inl ⟨by rfl, ?_⟩; intro W hSw; (try dsimp only at hSw); go_simp; (try with_reducible rfl))
        try simp only [Act.put, List.setIfInBounds_toArray, List.set_cons_zero, List.set_cons_succ]
        refine wpU_take (i := 2) (oi := ?oi12) (v := ?v12) ?hi12 (by kernel_rfl) (by kernel_rfl) (by kernel_rfl) ?hy12 ?rest12
        case hi12 => (simp only [List.getElem?_toArray, List.getElem?_cons_succ, List.getElem?_cons_zero]; rfl)
        case hy12 => (refine Or.inl ⟨by rfl, ?_⟩; intro W hSw; (try dsimp only at hSw); go_simp; (try with_reducible rfl))
        try simp only [Act.put, List.setIfInBounds_toArray, List.set_cons_zero, List.set_cons_succ]
        refine wpU_take (i := 3) (oi := ?oi13) (v := ?v13) ?hi13 (by kernel_rfl) (by kernel_rfl) (by kernel_rfl) ?hy13 ?rest13
        case hi13 => (simp only [List.getElem?_toArray, List.getElem?_cons_succ, List.getElem?_cons_zero]; rfl)
        case hy13 => (refine Or.inl ⟨by rfl, ?_⟩; intro W hSw; (try dsimp only at hSw); go_simp; (try with_reducible rfl))
        try simp only [Act.put, List.setIfInBounds_toArray, List.set_cons_zero, List.set_cons_succ]
        refine wpU_take (i := 4) (oi := ?oi14) (v := ?v14) ?hi14 (by kernel_rfl) (by kernel_rfl) (by kernel_rfl) ?hy14 ?rest14
        case hi14 => (simp only [List.getElem?_toArray, List.getElem?_cons_succ, List.getElem?_cons_zero]; rfl)
        case hy14 => (refine Or.inl ⟨by rfl, ?_⟩; intro W hSw; (try dsimp only at hSw); go_simp; (try with_reducible rfl))
        try simp only [Act.put, List.setIfInBounds_toArray, List.set_cons_zero, List.set_cons_succ]
        refine wpU_take (i := 5) (oi := ?oi15) (v := ?v15) ?hi15 (by kernel_rfl) (by kernel_rfl) (by kernel_rfl) ?hy15 ?rest15
        case hi15 => (simp only [List.getElem?_toArray, List.getElem?_cons_succ, List.getElem?_cons_zero]; rfl)
        case hy15 => (refine Or.inl ⟨by rfl, ?_⟩; intro W hSw; (try dsimp only at hSw); go_simp; (try with_reducible rfl))
        try simp only [Act.put, List.setIfInBounds_toArray, List.set_cons_zero, List.set_cons_succ]
        refine wpU_take (i := 6) (oi := ?oi16) (v := ?v16) ?hi16 (by kernel_rfl) (by kernel_rfl) (by kernel_rfl) ?hy16 ?rest16
        case hi16 => (simp only [List.getElem?_toArray, List.getElem?_cons_succ, List.getElem?_cons_zero]; rfl)
        case hy16 => (refine Or.inl ⟨by rfl, ?_⟩; intro W hSw; (try dsimp only at hSw); go_simp; (try with_reducible rfl))
        try simp only [Act.put, List.setIfInBounds_toArray, List.set_cons_zero, List.set_cons_succ]
        refine wpU_take (i := 7) (oi := ?oi17) (v := ?v17) ?hi17 (by kernel_rfl) (by kernel_rfl) (by kernel_rfl) ?hy17 ?rest17
        case hi17 => (simp only [List.getElem?_toArray, List.getElem?_cons_succ, List.getElem?_cons_zero]; rfl)
        case hy17 => (refine Or.inl ⟨by rfl, ?_⟩; intro W hSw; (try dsimp only at hSw); go_simp; (try with_reducible rfl))
        try simp only [Act.put, List.setIfInBounds_toArray, List.set_cons_zero, List.set_cons_succ]
        refine wpU_take (i := 8) (oi := ?oi18) (v := ?v18) ?hi18 (by kernel_rfl) (by kernel_rfl) (by kernel_rfl) ?hy18 ?rest18
        case hi18 => (simp only [List.getElem?_toArray, List.getElem?_cons_succ, List.getElem?_cons_zero]; rfl)
        case hy18 => (refine Or.inl ⟨by rfl, ?_⟩; intro W hSw; (try dsimp only at hSw); go_simp; (try with_reducible rfl))
        try simp only [Act.put, List.setIfInBounds_toArray, List.set_cons_zero, List.set_cons_succ]
        refine wpU_done (by kernel_rfl) ?_ _
        intro W hSw
        go_wp2_with fail
        go_ret
        exact ⟨by rw [HNX.out]; rfl, HB.out.trans ((hSw.2.2).mono HB.out.size)⟩
/-- both plates in one memory: st is the program's, sr the reference's -/
structure Duo (B : Nat) (W : World) (q m r : Nat) (st sr : St) (sl : By → Value) : Prop where
  pa : PA W q m st sl
  ra : ∃ sl' fv rl, RA W r sr sl' fv rl (fun k => B ≤ k ∧ ¬ foot q m st.fs sl k)
  fb : ∀ k, foot q m st.fs sl k → B ≤ k
  bs : B ≤ W.heap.size
theorem Duo.p {B : Nat} {W W' : World} {q m r : Nat} {st sr st' : St} {sl sl' : By → Value} (h : Duo B W q m r st sr sl) (hp : PA W' q m st' sl') (ho : Out (foot q m st.fs sl) W W') (hn : ∀ k, foot q m st'.fs sl' k → foot q m st.fs sl k ∨ W.heap.size ≤ k) :
    Duo B W' q m r st' sr sl' ∧ Below B W W' := by
  obtain ⟨s1, fv, rl, hr⟩ := h.ra
  refine ⟨⟨hp, ⟨s1, fv, rl, hr.keep (fun k hk hK => ho.block k hk hK.2) ho.size (fun k hk hK => ⟨hK.1, fun hf => ?_⟩)⟩, fun k hk => ?_, Nat.le_trans h.bs ho.size⟩, ho.below h.bs h.fb⟩
  · rcases hn k hf with h1 | h1
    · exact hK.2 h1
    · omega
  · rcases hn k hk with h1 | h1
    · exact h.fb k h1
    · exact Nat.le_trans h.bs h1
theorem Duo.r {B : Nat} {W W' : World} {q m r : Nat} {st sr sr' : St} {sl s2 : By → Value} {fv2 : Value} {rl2 : Int} (h : Duo B W q m r st sr sl) (hr : RA W' r sr' s2 fv2 rl2 (fun k => (B ≤ k ∧ ¬ foot q m st.fs sl k) ∨ W.heap.size ≤ k)) (ho : Out (fun k => k = r) W W') :
    Duo B W' q m r st sr' sl ∧ Below B W W' := by
  obtain ⟨s1, fv, rl, hr1⟩ := h.ra
  have hk : ∀ k, foot q m st.fs sl k → k < W.heap.size := fun k hk => h.pa.foot_lt hk
  refine ⟨⟨h.pa.keep (fun k hf => ho.block k (hk k hf) (fun e => hr1.kq.2 (e ▸ hf))), ⟨s2, fv2, rl2, hr.keep (fun _ _ _ => rfl) (Nat.le_refl _) (fun k _ hK => ?_)⟩, h.fb, Nat.le_trans h.bs ho.size⟩, ho.below h.bs (fun k e => by rw [e]; exact hr1.kq.1)⟩
  rcases hK with hK | hK
  · exact hK
  · exact ⟨Nat.le_trans h.bs hK, fun hf => by have := hk k hf; omega⟩
theorem Duo.below {B : Nat} {W W' : World} {q m r : Nat} {st sr : St} {sl : By → Value} (h : Duo B W q m r st sr sl) (hb : Below W.heap.size W W') : Duo B W' q m r st sr sl ∧ Below B W W' := by
  obtain ⟨s1, fv, rl, hr1⟩ := h.ra
  exact ⟨⟨h.pa.below hb, ⟨s1, fv, rl, hr1.below hb⟩, h.fb, Nat.le_trans h.bs hb.size⟩, hb.mono h.bs⟩
end Go.Proofs.Ytclaahailnpdoaa.Pt
