/-
  Chapter 12's reference: Allowed, Append, Sync.
-/
import Derived.Test.YthofbblgoamipaaGreatDoorT1
namespace Go.Proofs.YthofbblgoamipaaGreatDoor.Wa
open Go.RowKit Pt
set_option linter.unusedVariables false
set_option linter.unusedSimpArgs false
set_option maxRecDepth 100000

theorem bls_elem : Tryz.prog.underlying 38 = some (.slice (Tryz.prog.elem 38)) := by kernel_rfl
theorem bls_size (w : World) : (sizeOf (Tryz.prog.elem 38)).run Tryz.prog w = .ok 1 w := by kernel_rfl
/-- a log's answer: base, records, how many of them last -/
structure Lg where
  base : By
  R : List By
  safe : Nat
/-- such an answer as a value, its slices in memory -/
structure LgV (Z : Nat → Prop) (W : World) (lg : Lg) (bv rv : Value) : Prop where
  b : Rd W 1 bv lg.base.length (Lib.byteCells lg.base)
  r : RdB Z W rv lg.R
  zb : 0 < lg.base.length → ∀ k, bv.ownBlock = some k → Z k
  lb : lg.base.length ≤ 140737488355000
  lr : lg.R.length ≤ 1000000
theorem LgV.below {Z : Nat → Prop} {W W' : World} {lg : Lg} {bv rv : Value} (h : LgV Z W lg bv rv) (hb : Below W.heap.size W W') : LgV Z W' lg bv rv := ⟨h.b.below hb, h.r.below hb, h.zb, h.lb, h.lr⟩
theorem LgV.keep {Z : Nat → Prop} {W W' : World} {lg : Lg} {bv rv : Value} (h : LgV Z W lg bv rv) (hb : ∀ k, Z k → W'.heap[k]? = W.heap[k]?) : LgV Z W' lg bv rv := ⟨rd_keep0 h.b fun h0 k hk => hb k (h.zb h0 k hk), h.r.keep hb, h.zb, h.lb, h.lr⟩
theorem LgV.mono {Z Y : Nat → Prop} {W : World} {lg : Lg} {bv rv : Value} (h : LgV Z W lg bv rv) (hs : ∀ k, Z k → Y k) : LgV Y W lg bv rv := ⟨h.b, h.r.mono hs, fun h0 k hk => hs k (h.zb h0 k hk), h.lb, h.lr⟩
def alw (lg : Lg) (b : By) (l : List By) : Bool := decide (lg.base = b) && (decide (lg.safe ≤ l.length) && (decide (l.length ≤ lg.R.length) && decide (l = lg.R.take l.length)))
set_option maxHeartbeats 4000000 in
theorem allowed_any {Z Z' : Nat → Prop} (lg : Lg) (b : By) (l : List By) (bv0 rv0 bv rv : Value) (w : World) (h : LgV Z w lg bv0 rv0) (hb : Rd w 1 bv b.length (Lib.byteCells b)) (hl : RdB Z' w rv l) (hll : l.length ≤ 1000000) :
    Calls Tryz.prog 26 #[.agg #[bv0, rv0, .int .i64 (lg.safe : Int)], bv, rv] w fun e w' => e = .returned (.bool (alw lg b l)) ∧ Below w.heap.size w w' := by
  obtain ⟨ba, bc, rfl⟩ := hb.slice
  obtain ⟨ra, rc, rfl⟩ := hl.slice
  obtain ⟨Ba, Bc, rfl⟩ := h.b.slice
  obtain ⟨Ra, Rc, rfl⟩ := h.r.slice
  obtain ⟨n, hn⟩ : ∃ n, n = l.length := ⟨_, rfl⟩
  obtain ⟨m, hm⟩ : ∃ m, m = lg.R.length := ⟨_, rfl⟩
  have hcap : m ≤ Rc := by
    obtain ⟨vs, h1, _⟩ := h.r
    rcases h1.2 with ⟨⟨a', c', e⟩, h0⟩ | ⟨b', o', c', e, hc, _⟩
    · omega
    · cases e; omega
  have HH := Lib.hid (And.intro h (And.intro hb hl))
  have HNM := Lib.hid (And.intro hn (And.intro hm hll))
  rw [← hn, ← hm]
  obtain ⟨x0, hx0⟩ : ∃ x0, x0 = #[Value.slice Ba lg.base.length Bc, .slice Ra m Rc, .int .i64 (lg.safe : Int)] := ⟨_, rfl⟩
  have hbk := Blk.new w 51 [Value.slice Ba lg.base.length Bc, .slice Ra m Rc, .int .i64 (lg.safe : Int)]
  have hbm : Below w.heap.size w (w.alloc (.cells #[Value.slice Ba lg.base.length Bc, .slice Ra m Rc, .int .i64 (lg.safe : Int)] 51)) := (Below.refl _ _).alloc (Nat.le_refl _) _
  have HBM := Lib.hid (And.intro hbk hbm)
  have HSM := Lib.hid (same_any lg.base b _ _ _ (h.b.below hbm) (hb.below hbm) (by have := h.lb; omega))
  have n9 : n ≤ 1000000 := by omega
  have m9 : m ≤ 1000000 := by have := h.lr; omega
  have c0 := hbk.cell 0 rfl
  clear h hb hl hll hn hm hbk hbm
  go_enter Tryz.func26, Tryz.ntmps26
  go_wp2_with fail
  refine HSM.out.mono ?_
  rintro e w1 ⟨rfl, hb1⟩
  have HB1 := Lib.hid (HBM.out.2.trans (hb1.mono HBM.out.2.size))
  have hbk1 := HBM.out.1.below hb1 (by simp)
  have c1 := hbk1.cell 1 rfl
  have c2 := hbk1.cell 2 rfl
  have HA : Hid (alw lg b l = (decide (lg.base = b) && (decide (lg.safe ≤ n) && (decide (n ≤ m) && decide (l = lg.R.take n))))) := Lib.hid (by rw [HNM.out.1, HNM.out.2.1]; rfl)
  obtain ⟨r, hr⟩ : ∃ r, r = decide (lg.base = b) := ⟨_, rfl⟩
  rw [← hr] at HA ⊢
  clear hb1 HSM hr hbk1
  cases r with
  | false =>
    go_wp2_with fail
    go_ret
    exact ⟨by rw [HA.out]; rfl, HB1.out⟩
  | true =>
    by_cases h2 : lg.safe ≤ n
    case neg =>
      have t2 : decide ((lg.safe : Int) ≤ (n : Int)) = false := by rw [decide_eq_false_iff_not]; omega
      have t2' : decide (lg.safe ≤ n) = false := by rw [decide_eq_false_iff_not]; omega
      rw [t2'] at HA
      clear h2
      go_wp2_with fail
      go_ret
      exact ⟨by rw [HA.out]; rfl, HB1.out⟩
    case pos =>
      have t2 : decide ((lg.safe : Int) ≤ (n : Int)) = true := by rw [decide_eq_true_iff]; omega
      have t2' : decide (lg.safe ≤ n) = true := by rw [decide_eq_true_iff]; omega
      rw [t2'] at HA
      by_cases h3 : n ≤ m
      case neg =>
        have t3 : decide ((n : Int) ≤ (m : Int)) = false := by rw [decide_eq_false_iff_not]; omega
        have t3' : decide (n ≤ m) = false := by rw [decide_eq_false_iff_not]; omega
        rw [t3'] at HA
        clear h2 h3
        go_wp2_with fail
        go_ret
        exact ⟨by rw [HA.out]; rfl, HB1.out⟩
      case pos =>
        have t3 : decide ((n : Int) ≤ (m : Int)) = true := by rw [decide_eq_true_iff]; omega
        have t3' : decide (n ≤ m) = true := by rw [decide_eq_true_iff]; omega
        rw [t3'] at HA
        have hsl := fun W => sl_front (P := Tryz.prog) W 38 Ra m Rc n .i64 bls_elem (bls_size W) (by omega)
        have HLS := Lib.hid (lists_any l (lg.R.take n) (.slice ra n rc) (.slice Ra n Rc) w1 (by have := HH.out.2.2.below HB1.out; rw [← HNM.out.1] at this; exact this) (by
          have h4 := HH.out.1.r.below HB1.out
          rw [← HNM.out.2.1] at h4
          exact h4.front n (by have := HNM.out.2.1; omega) HNM.out.2.1) (by have := HNM.out.1; omega))
        clear h2 h3
        go_wp2_with fail
        refine HLS.out.mono ?_
        rintro e w2 ⟨rfl, hb2⟩
        have HB2 := Lib.hid (HB1.out.trans (hb2.mono HB1.out.size))
        obtain ⟨r, hr⟩ : ∃ r, r = decide (l = lg.R.take n) := ⟨_, rfl⟩
        rw [← hr] at HA ⊢
        clear hb2 hr HLS hsl
        go_wp2_with fail
        go_ret
        exact ⟨by rw [HA.out]; cases r <;> rfl, HB2.out⟩
/-- the value of an answer -/
def lgv (lg : Lg) (bv rv : Value) : Value := .agg #[bv, rv, .int .i64 (lg.safe : Int)]
theorem log_info : (Tryz.prog.info? 51).map (·.size) = some 3 := by kernel_rfl
set_option maxHeartbeats 4000000 in
theorem rsync_any {Z : Nat → Prop} (lg : Lg) (bv rv : Value) (w : World) (h : LgV Z w lg bv rv) :
    Calls Tryz.prog 23 #[.agg #[bv, rv, .int .i64 (lg.safe : Int)]] w fun e w' => e = .returned (.agg #[bv, rv, .int .i64 (lg.R.length : Int)]) ∧ Below w.heap.size w w' := by
  obtain ⟨Ba, Bc, rfl⟩ := h.b.slice
  obtain ⟨Ra, Rc, rfl⟩ := h.r.slice
  have hbk := Blk.new w 51 [Value.slice Ba lg.base.length Bc, .slice Ra lg.R.length Rc, .int .i64 (lg.safe : Int)]
  have c0 := hbk.cell 0 rfl
  have c1 := hbk.cell 1 rfl
  have c2 := hbk.cell 2 rfl
  clear h hbk
  go_enter Tryz.func23, Tryz.ntmps23
  go_wp2_with fail
  have hc := heap_alloc_new (w.alloc (.cells #[Value.slice Ba lg.base.length Bc, .slice Ra lg.R.length Rc, .int .i64 (lg.safe : Int)] 51)) (.cells #[Value.slice Ba lg.base.length Bc, .slice Ra lg.R.length Rc, .int .i64 (lg.R.length : Int)] 51)
  rw [World.size_alloc] at hc
  refine bodyPost_ret (results_cell_row rfl _ _ (w.heap.size + 1) 51 _ (0, 0) _ rfl hc Tryz.underlying51 rfl log_info) rfl ?_
  exact ⟨rfl, ((Below.refl _ _).alloc (Nat.le_refl _) _).alloc (by rw [World.size_alloc]; omega) _⟩
theorem slc_one {W : World} {sz n : Nat} {v : Value} {cs : List Value} (h : Rd W sz v n cs) : v.oneCell' = true := by
  obtain ⟨a, c, rfl⟩ := h.slice; rfl
theorem RdB.one {W : World} {vs : List Value} {L : List By} (hl : vs.length = L.length) (h : ∀ (t : Nat) u b, vs[t]? = some u → L[t]? = some b → Rd W 1 u b.length (Lib.byteCells b)) : ∀ u ∈ vs, u.oneCell' = true := fun u hu => by
  obtain ⟨t, ht⟩ := List.getElem?_of_mem hu
  obtain ⟨b, hb⟩ : ∃ b, L[t]? = some b := ⟨_, List.getElem?_eq_getElem (by have := (List.getElem?_eq_some_iff.1 ht).1; omega)⟩
  exact slc_one (h t u b ht hb)
set_option maxHeartbeats 8000000 in
theorem rapp_any {Z : Nat → Prop} (lg : Lg) (b : By) (bv0 rv0 bv : Value) (w : World) (h : LgV Z w lg bv0 rv0) (hb : Rd w 1 bv b.length (Lib.byteCells b)) (hl : b.length ≤ 140737488355000) :
    Calls Tryz.prog 22 #[.agg #[bv0, rv0, .int .i64 (lg.safe : Int)], bv] w fun e w' => ∃ rv', e = .returned (.agg #[bv0, rv', .int .i64 (lg.safe : Int)]) ∧ RdB (fun k => Z k ∨ (w.heap.size ≤ k ∧ k < w'.heap.size)) w' rv' (lg.R ++ [b]) ∧ Below w.heap.size w w' := by
  obtain ⟨ba, bc, rfl⟩ := hb.slice
  obtain ⟨Ba, Bc, rfl⟩ := h.b.slice
  obtain ⟨Ra, Rc, rfl⟩ := h.r.slice
  obtain ⟨m, hm⟩ : ∃ m, m = lg.R.length := ⟨_, rfl⟩
  have HH := Lib.hid (And.intro h (And.intro hb hl))
  rw [← hm]
  have HM := Lib.hid hm
  have m9 : m ≤ 1000000 := by have := h.lr; omega
  have hbk := Blk.new w 51 [Value.slice Ba lg.base.length Bc, .slice Ra m Rc, .int .i64 (lg.safe : Int)]
  have hbm : Below w.heap.size w (w.alloc (.cells #[Value.slice Ba lg.base.length Bc, .slice Ra m Rc, .int .i64 (lg.safe : Int)] 51)) := (Below.refl _ _).alloc (Nat.le_refl _) _
  obtain ⟨i3, hi3, hz3⟩ : ∃ i, Tryz.prog.info? 51 = some i ∧ i.zero = some (.agg #[.slice none 0 0, .slice none 0 0, .int .i64 0]) := by
    have : (Tryz.prog.info? 51).map (fun i => i.zero) = some (some (.agg #[.slice none 0 0, .slice none 0 0, .int .i64 0])) := by kernel_rfl
    cases hx : Tryz.prog.info? 51 with
    | none => rw [hx] at this; cases this
    | some i => rw [hx] at this; exact ⟨i, rfl, by simpa using this⟩
  obtain ⟨i0, hi, hz0, hz1, hz2⟩ := info_parts bys_row
  have HHI := Lib.hid (And.intro hi (And.intro hz0 (And.intro hz1 hz2)))
  have HBK := Lib.hid (And.intro hbk hbm)
  have c1 := hbk.cell 1 rfl
  clear h hb hl hm hbk hbm hi hz0 hz1 hz2 hi3 hz3
  go_enter Tryz.func22, Tryz.ntmps22
  have HB2 : Hid (Below w.heap.size w ((w.alloc (.cells #[Value.slice Ba lg.base.length Bc, .slice Ra m Rc, .int .i64 (lg.safe : Int)] 51)).alloc (.cells #[.slice none 0 0, .slice none 0 0, .int .i64 0] 51))) := Lib.hid (HBK.out.2.alloc HBK.out.2.size _)
  obtain ⟨vs, hrd0, hel, hbd, -, hzz⟩ := HH.out.1.r
  have HZZ := Lib.hid hzz
  have hrd := hrd0.below HB2.out
  clear hrd0
  have HRL : Hid (Rd ((w.alloc (.cells #[Value.slice Ba lg.base.length Bc, .slice Ra m Rc, .int .i64 (lg.safe : Int)] 51)).alloc (.cells #[.slice none 0 0, .slice none 0 0, .int .i64 0] 51)) 1 (.slice Ra m Rc) m vs) := Lib.hid (by rw [HM.out]; rw [HM.out] at hrd; exact hrd)
  have HEL := Lib.hid (And.intro hel hbd)
  have HON : Hid (∀ u ∈ vs, u.oneCell' = true) := Lib.hid (RdB.one (by have := hrd.1; omega) hel)
  clear hrd hel hbd hzz
  go_wp2_with (at_builtin; go_loud (refine wpList_app rfl (.tmp 6) (.tmp 8) 38 rfl 32 (w.heap.size + 2) i0 (.slice none 0 0) 1 24 Tryz.underlying38 HHI.out.1 HHI.out.2.1 HHI.out.2.2.1 HHI.out.2.2.2 rfl (by decide) (.slice none 0 0) 0 [] rfl (World.ownsRow_nil _ _ _ _) _ m vs rfl HRL.out HON.out (by unfold maxLen; omega) (by omega) (by rw [World.size_alloc, World.size_alloc]; omega) ?_))
  rintro r1 w3 ho hg -
  have HO3 : Hid (w3.ownsRow (w.heap.size + 2) 32 1 r1 m vs) := Lib.hid ho
  have hbx0 := (((Blk.new w 51 [Value.slice Ba lg.base.length Bc, .slice Ra m Rc, .int .i64 (lg.safe : Int)]).alloc (.cells #[.slice none 0 0, .slice none 0 0, .int .i64 0] 51))).grown hg (fun r e => by cases e)
  have hbx1 : Blk w3 (w.heap.size + 1) 51 [.slice none 0 0, .slice none 0 0, .int .i64 0] := by
    have h := Blk.new (w.alloc (.cells #[Value.slice Ba lg.base.length Bc, .slice Ra m Rc, .int .i64 (lg.safe : Int)] 51)) 51 [.slice none 0 0, .slice none 0 0, .int .i64 0]
    rw [World.size_alloc] at h
    exact h.grown hg (fun r e => by cases e)
  have HX := Lib.hid (And.intro hbx0 hbx1)
  have HB3 : Hid (Below w.heap.size w w3) := Lib.hid (HB2.out.grown hg HB2.out.size (fun k e => by cases e))
  have HS3 : Hid (w.heap.size + 2 ≤ w3.heap.size) := Lib.hid (by have := hg.size; rw [World.size_alloc, World.size_alloc] at this; omega)
  obtain ⟨ra1, rc1, e1⟩ := (Rd.of_own HO3.out).slice
  subst e1
  clear ho hg hbx0 hbx1 HRL c1
  go_wp2_with fail
  refine wp_region_held_drew (S := (fun W => W.cell? ⟨w.heap.size, 0, none⟩ = some (.slice Ba lg.base.length Bc) ∧ W.cell? ⟨w.heap.size, 2, none⟩ = some (.int .i64 (lg.safe : Int)))) (by kernel_rfl) ?_ (fun hHeld1 => ?_)
  · exact ⟨HX.out.1.cell 0 rfl, HX.out.1.cell 2 rfl⟩
  refine wpAnyH_take (i := 0) (oi := ?oi1) (v := ?v1) ?hi1 (by kernel_rfl) (by kernel_rfl) (by kernel_rfl) ?hq1 ?hy1 (by assumption) ?rest1
  case hi1 => (simp only [List.getElem?_toArray, List.getElem?_cons_succ, List.getElem?_cons_zero]; rfl)
  case hq1 => exact fun _ _ _ h => h
  case hy1 => (refine Or.inl ⟨by rfl, ?_⟩; intro W hSw; (try dsimp only at hSw); go_simp; (try with_reducible rfl))
  try simp only [Act.put, List.setIfInBounds_toArray, List.set_cons_zero, List.set_cons_succ]
  refine wpAnyH_take (i := 1) (oi := ?oi2) (v := ?v2) ?hi2 (by kernel_rfl) (by kernel_rfl) (by kernel_rfl) ?hq2 ?hy2 (by assumption) ?rest2
  case hi2 => (simp only [List.getElem?_toArray, List.getElem?_cons_succ, List.getElem?_cons_zero]; rfl)
  case hq2 => exact fun _ _ _ h => h
  case hy2 => (refine Or.inl ⟨by rfl, ?_⟩; intro W hSw; (try dsimp only at hSw); go_simp; (try with_reducible rfl))
  try simp only [Act.put, List.setIfInBounds_toArray, List.set_cons_zero, List.set_cons_succ]
  refine wpAnyH_take (i := 2) (oi := ?oi3) (v := ?v3) ?hi3 (by kernel_rfl) (by kernel_rfl) (by kernel_rfl) ?hq3 ?hy3 (by assumption) ?rest3
  case hi3 => (simp only [List.getElem?_toArray, List.getElem?_cons_succ, List.getElem?_cons_zero]; rfl)
  case hq3 => exact fun _ _ _ h => h
  case hy3 => (refine Or.inl ⟨by rfl, ?_⟩; intro W hSw; (try dsimp only at hSw); go_simp; (try with_reducible rfl))
  try simp only [Act.put, List.setIfInBounds_toArray, List.set_cons_zero, List.set_cons_succ]
  refine wpAnyH_take (i := 3) (oi := ?oi4) (v := ?v4) ?hi4 (by kernel_rfl) (by kernel_rfl) (by kernel_rfl) ?hq4 ?hy4 (by assumption) ?rest4
  case hi4 => (simp only [List.getElem?_toArray, List.getElem?_cons_succ, List.getElem?_cons_zero]; rfl)
  case hq4 => exact fun _ _ _ h => h
  case hy4 => (refine Or.inl ⟨by rfl, ?_⟩; intro W hSw; (try dsimp only at hSw); go_simp; (try with_reducible rfl))
  try simp only [Act.put, List.setIfInBounds_toArray, List.set_cons_zero, List.set_cons_succ]
  refine wpAnyH_take (i := 7) (oi := ?oi5) (v := ?v5) ?hi5 (by kernel_rfl) (by kernel_rfl) (by kernel_rfl) ?hq5 ?hy5 (by assumption) ?rest5
  case hi5 => (simp only [List.getElem?_toArray, List.getElem?_cons_succ, List.getElem?_cons_zero]; rfl)
  case hq5 => exact fun _ _ _ h => h
  case hy5 => (refine Or.inl ⟨by rfl, ?_⟩; intro W hSw; (try dsimp only at hSw); go_simp; (try with_reducible rfl))
  try simp only [Act.put, List.setIfInBounds_toArray, List.set_cons_zero, List.set_cons_succ]
  refine wpAnyH_take (i := 8) (oi := ?oi6) (v := ?v6) ?hi6 (by kernel_rfl) (by kernel_rfl) (by kernel_rfl) ?hq6 ?hy6 (by assumption) ?rest6
  case hi6 => (simp only [List.getElem?_toArray, List.getElem?_cons_succ, List.getElem?_cons_zero]; rfl)
  case hq6 => exact fun _ _ _ h => h
  case hy6 => (refine Or.inl ⟨by rfl, ?_⟩; intro W hSw; (try dsimp only at hSw); go_simp; (try with_reducible rfl))
  try simp only [Act.put, List.setIfInBounds_toArray, List.set_cons_zero, List.set_cons_succ]
  refine wpAnyH_ready (rs := [4]) (by kernel_rfl) (by simp) ?_
  refine AllReadyH.cons (o := ?oi7) ?hi7 (fun K hK => ?hs7) AllReadyH.nil
  case hi7 => (simp only [List.getElem?_toArray, List.getElem?_cons_succ, List.getElem?_cons_zero]; rfl)
  go_simp
  refine (copy_any b _ _ ((HH.out.2.1.below HB3.out).below (Below.refl _ _).drew) HH.out.2.2).mono ?_
  rintro e w4 ⟨rfl, hr4, hb4⟩
  have HB4 : Hid (Below w3.heap.size w3 w4) := Lib.hid ((Below.refl w3.heap.size w3).drew.trans hb4)
  have HR4 : Hid (Rd w4 1 (.slice (some ⟨w3.heap.size, 0, none⟩) b.length b.length) b.length (Lib.byteCells b)) := Lib.hid hr4
  clear hr4 hb4
  go_wp2_with fail
  refine hK.out _ _ ?_ (fun hHeld2 => ?_)
  · exact ⟨(HX.out.1.below HB4.out HX.out.1.lt).cell 0 rfl, (HX.out.1.below HB4.out HX.out.1.lt).cell 2 rfl⟩
  clear hK
  try simp only [Act.put, List.setIfInBounds_toArray, List.set_cons_zero, List.set_cons_succ]
  refine wpAnyH_ready (rs := [5]) (by kernel_rfl) (by simp) ?_
  refine AllReadyH.cons (o := ?oi8) ?hi8 (fun K hK => ?hs8) AllReadyH.nil
  case hi8 => (simp only [List.getElem?_toArray, List.getElem?_cons_succ, List.getElem?_cons_zero]; rfl)
  go_simp
  have HB5 : Hid (Below w3.heap.size w3 (w4.alloc (.cells #[.slice (some ⟨w3.heap.size, 0, none⟩) b.length b.length] 32))) := Lib.hid (HB4.out.alloc HB4.out.size _)
  have HR5 := Lib.hid (rd_one w4 (.slice (some ⟨w3.heap.size, 0, none⟩) b.length b.length) 32)
  refine hK.out _ _ ?_ (fun hHeld3 => ?_)
  · exact ⟨(HX.out.1.below HB5.out HX.out.1.lt).cell 0 rfl, (HX.out.1.below HB5.out HX.out.1.lt).cell 2 rfl⟩
  clear hK
  try simp only [Act.put, List.setIfInBounds_toArray, List.set_cons_zero, List.set_cons_succ]
  obtain ⟨w5, hw5⟩ : ∃ w5, w5 = w4.alloc (.cells #[.slice (some ⟨w3.heap.size, 0, none⟩) b.length b.length] 32) := ⟨_, rfl⟩
  obtain ⟨v6, w6, hrun, ho6, hg6, -⟩ := app_run (P := Tryz.prog) w5 38 38 32 (w.heap.size + 2) i0 (.slice none 0 0) 1 24 Tryz.underlying38 HHI.out.1 HHI.out.2.1 HHI.out.2.2.1 HHI.out.2.2.2 rfl (by decide) _ m vs (by rw [hw5]; exact own_below HO3.out HB5.out) _ 1 _ (by rw [hw5]; exact HR5.out) (by intro z hz; rw [List.mem_singleton] at hz; subst hz; rfl) (by unfold maxLen; omega) (by omega) (by rw [hw5]; have := HB5.out.size; have := HS3.out; omega)
  rw [← hw5] at HB5 ⊢
  have hX5 := HX.out.1.below HB5.out HX.out.1.lt
  have hX5b := HX.out.2.below HB5.out HX.out.2.lt
  have hl5 := own_below HO3.out HB5.out
  have hX6 := hX5.grown hg6 (fun r hr e => by have := (hl5.lt r hr).1; omega)
  have hX6b := hX5b.grown hg6 (fun r hr e => by have := (hl5.lt r hr).1; omega)
  have HX6 := Lib.hid (And.intro hX6 hX6b)
  obtain ⟨va6, vc6, e6⟩ := (Rd.of_own ho6).slice
  subst e6
  refine wpAnyH_ready (rs := [6]) (by kernel_rfl) (by simp) ?_
  refine AllReadyH.cons (o := ?oi9) ?hi9 (fun K hK => ?hs9) AllReadyH.nil
  case hi9 => (simp only [List.getElem?_toArray, List.getElem?_cons_succ, List.getElem?_cons_zero]; rfl)
  refine hs_exec (by rfl) (exec_append (.tmp 12) (.tmp 15) 38 rfl rfl rfl hrun) ?_
  refine hK.out _ _ ?_ (fun hHeld4 => ?_)
  · exact ⟨HX6.out.1.cell 0 rfl, HX6.out.1.cell 2 rfl⟩
  clear hK
  try simp only [Act.put, List.setIfInBounds_toArray, List.set_cons_zero, List.set_cons_succ]
  have HO6 := Lib.hid (And.intro ho6 (And.intro hg6 hw5))
  clear ho6 hg6 hw5 hrun hX5 hX5b hl5 hX6 hX6b
  refine wpAnyH_take (i := 9) (oi := ?oi10) (v := ?v10) ?hi10 (by kernel_rfl) (by kernel_rfl) (by kernel_rfl) ?hq10 ?hy10 (by assumption) ?rest10
  case hi10 => (simp only [List.getElem?_toArray, List.getElem?_cons_succ, List.getElem?_cons_zero]; rfl)
  case hq10 => exact fun _ _ _ h => h
  case hy10 => (refine Or.inl ⟨by rfl, ?_⟩; intro W hSw; (try dsimp only at hSw); go_simp; (try with_reducible rfl))
  try simp only [Act.put, List.setIfInBounds_toArray, List.set_cons_zero, List.set_cons_succ]
  have k0 := HX6.out.2.cell 0 rfl
  have k1 := HX6.out.2.cell 1 rfl
  have k2 := HX6.out.2.cell 2 rfl
  have f0 := HX6.out.2.frozen 0
  have f1 := HX6.out.2.frozen 1
  have f2 := HX6.out.2.frozen 2
  refine wpAnyH_ready (rs := [10]) (by kernel_rfl) (by simp) ?_
  refine AllReadyH.cons (o := ?oi11) ?hi11 (fun K hK => ?hs11) AllReadyH.nil
  case hi11 => (simp only [List.getElem?_toArray, List.getElem?_cons_succ, List.getElem?_cons_zero]; rfl)
  go_simp
  have HS1 := Lib.hid (HX6.out.1.setOther ⟨w.heap.size + 1, 0, none⟩ (.slice Ba lg.base.length Bc) (by simp) |>.setOther ⟨w.heap.size + 1, 1, none⟩ (.slice va6 (m + 1) vc6) (by simp) |>.setOther ⟨w.heap.size + 1, 2, none⟩ (.int .i64 (lg.safe : Int)) (by simp))
  have HS2 := Lib.hid (((HX6.out.2.set 0 (.slice Ba lg.base.length Bc)).set 1 (.slice va6 (m + 1) vc6)).set 2 (.int .i64 (lg.safe : Int)))
  refine hK.out _ _ ?_ (fun hHeld5 => ?_)
  · exact ⟨HS1.out.cell 0 rfl, HS1.out.cell 2 rfl⟩
  clear hK k0 k1 k2 f0 f1 f2
  try simp only [Act.put, List.setIfInBounds_toArray, List.set_cons_zero, List.set_cons_succ]
  refine wpAnyH_done (by kernel_rfl) ?_ _
  have HOU : Hid (Out (fun k => k = w.heap.size + 1) w6 (((w6.setCell ⟨w.heap.size + 1, 0, none⟩ (.slice Ba lg.base.length Bc)).setCell ⟨w.heap.size + 1, 1, none⟩ (.slice va6 (m + 1) vc6)).setCell ⟨w.heap.size + 1, 2, none⟩ (.int .i64 (lg.safe : Int)))) := Lib.hid ((((Out.refl (fun k => k = w.heap.size + 1) _).set ⟨w.heap.size + 1, 0, none⟩ _ rfl).set ⟨w.heap.size + 1, 1, none⟩ _ rfl).set ⟨w.heap.size + 1, 2, none⟩ _ rfl)
  generalize ((w6.setCell ⟨w.heap.size + 1, 0, none⟩ (.slice Ba lg.base.length Bc)).setCell ⟨w.heap.size + 1, 1, none⟩ (.slice va6 (m + 1) vc6)).setCell ⟨w.heap.size + 1, 2, none⟩ (.int .i64 (lg.safe : Int)) = w7 at *
  go_wp2_with fail
  refine bodyPost_ret (results_cell_row rfl _ _ (w.heap.size + 1) 51 _ (0, 0) _ rfl HS2.out Tryz.underlying51 rfl log_info) rfl ?_
  have hB5 := HB3.out.trans (HB5.out.mono HB3.out.size)
  have hl5 := own_below HO3.out HB5.out
  have hB6 : Below w.heap.size w w6 := hB5.grown HO6.out.2.1 hB5.size (fun k hk => by have := (hl5.lt k hk).1; omega)
  have hB7 : Below w.heap.size w w7 := ⟨HOU.out.os.trans hB6.os, HOU.out.tape.trans hB6.tape, HOU.out.output.trans hB6.output, Nat.le_trans hB6.size HOU.out.size, fun k hk => (HOU.out.block k (Nat.lt_of_lt_of_le hk hB6.size) (fun e => by omega)).trans (hB6.block k hk)⟩
  refine ⟨.slice va6 (m + 1) vc6, rfl, ⟨vs ++ [.slice (some ⟨w3.heap.size, 0, none⟩) b.length b.length], ?_, fun t u c hu hc => ?_, fun c hc => ?_, fun _ k hk => .inr ⟨by have := (HO6.out.1.lt k hk).1; omega, Nat.lt_of_lt_of_le (HO6.out.1.lt k hk).2 HOU.out.size⟩, fun t u c hu hc h0 k hk => ?_⟩, hB7⟩
  · have h1 := own_keep HO6.out.1 (w' := w7) (fun k hk => HOU.out.block k (HO6.out.1.lt k hk).2 (fun e => by have := (HO6.out.1.lt k hk).1; omega))
    have h2 := Rd.of_own h1
    rw [List.length_append, ← HM.out]
    exact h2
  · -- elements that stood before the call, or the copy
    have hlv : vs.length = lg.R.length := by have := HO3.out.1; rw [← HM.out]; omega
    rw [List.getElem?_append] at hu hc
    by_cases ht : t < vs.length
    · rw [if_pos ht] at hu
      rw [if_pos (by omega)] at hc
      exact (HEL.out.1 t u c hu hc).below hB7
    · rw [if_neg ht] at hu
      rw [if_neg (by omega)] at hc
      have h0 : t - vs.length = 0 := by have := (List.getElem?_eq_some_iff.1 hu).1; simp at this; omega
      rw [h0] at hu
      rw [← hlv, h0] at hc
      cases hu
      cases hc
      refine rd_keep0 HR4.out (fun hp k hk => ?_)
      obtain ⟨b', o', c', e', _, hcc⟩ := HR4.out.pos hp
      cases e'
      have hkk : k = w3.heap.size := by cases hk; rfl
      clear hk
      have hlt : k < w4.heap.size := by rw [hkk]; exact World.block_lt_of_cell? w4 _ (hcc 0 _ (List.getElem?_eq_getElem (by rw [bc_length]; exact hp)))
      have h3 := HS3.out
      have h6 : k < w6.heap.size := by have h7 := HO6.out.2.1.size; rw [HO6.out.2.2, World.size_alloc] at h7; omega
      rw [HOU.out.block k h6 (fun e => by omega), HO6.out.2.1.block k (by rw [HO6.out.2.2, World.size_alloc]; omega) (fun e => by have := (HO3.out.lt k e.symm).2; omega), HO6.out.2.2]
      exact Lib.alloc_old w4 _ k hlt
  · rcases List.mem_append.1 hc with hc | hc
    · exact HEL.out.2 c hc
    · rw [List.mem_singleton] at hc; subst hc; exact HH.out.2.2
  · have hlv : vs.length = lg.R.length := by have := HO3.out.1; rw [← HM.out]; omega
    rw [List.getElem?_append] at hu hc
    by_cases ht : t < vs.length
    · rw [if_pos ht] at hu
      rw [if_pos (by omega)] at hc
      exact .inl (HZZ.out t u c hu hc h0 k hk)
    · rw [if_neg ht] at hu
      rw [if_neg (by omega)] at hc
      have h1 : t - vs.length = 0 := by have := (List.getElem?_eq_some_iff.1 hu).1; simp at this; omega
      rw [h1] at hu
      rw [← hlv, h1] at hc
      cases hu
      cases hc
      obtain ⟨b', o', c', e', _, hcc⟩ := HR4.out.pos h0
      cases e'
      have hkk : k = w3.heap.size := by cases hk; rfl
      have hlt : k < w4.heap.size := by rw [hkk]; exact World.block_lt_of_cell? w4 _ (hcc 0 _ (List.getElem?_eq_getElem (by rw [bc_length]; exact h0)))
      have h3 := HS3.out
      have h6 : k < w6.heap.size := by have h7 := HO6.out.2.1.size; rw [HO6.out.2.2, World.size_alloc] at h7; omega
      exact .inr ⟨by omega, Nat.lt_of_lt_of_le h6 HOU.out.size⟩
end Go.Proofs.YthofbblgoamipaaGreatDoor.Wa
