/-
  Chapter 10: PlateArmed's walk. Printed by gen_plate_armed.py.
-/
import Derived.Test.YtclaahailnpdoaaBu
namespace Go.Proofs.Ytclaahailnpdoaa.Pt
open Go.RowKit Go.Maps
set_option linter.unusedVariables false
set_option linter.unusedSimpArgs false

/-- a step that is a change -/
def Good (s : Sp) : Prop := 0 ≤ s.kd ∧ s.kd ≤ 2 ∧ 1 ≤ s.nm.length ∧ s.nm.length ≤ 64
/-- the armed plate and the other one -/
structure Arms (sp sq : St) (n : Nat) : Prop where
  fs : sp.fs = sq.fs
  room : sp.room = sq.room
  ap : sp.armed = true
  aq : sq.armed = false
  dq : sq.down = false
  left : sp.left = n
  down : sp.down = true → n = 0
theorem good_asked {s : Sp} (h : Good s) (d : Bool) : askedC d s.nm = if d then 9 else 0 := by
  unfold askedC Good at *
  rw [if_neg (by omega)]
theorem arms_chg {sp sq : St} {n : Nat} {s : Sp} (h : Arms sp sq (n + 1)) (hg : Good s) : chg sp s.nm = (0, { sp with left := n }) ∧ chg sq s.nm = (0, sq) := by
  have hd : sp.down = false := by
    cases hd : sp.down with
    | false => rfl
    | true => have := h.down hd; omega
  unfold chg
  rw [good_asked hg, good_asked hg, hd, h.dq, h.ap, h.aq, h.left]
  simp
theorem arms_chg0 {sp sq : St} {s : Sp} (h : Arms sp sq 0) (hg : Good s) : (chg sp s.nm).1 = 9 ∧ (chg sp s.nm).2 = { sp with down := true } := by
  obtain ⟨fs, room, armed, left, down⟩ := sp
  have h1 := h.ap
  have h2 := h.left
  simp only at h1 h2
  subst h1 h2
  unfold chg
  rw [good_asked hg]
  cases down <;> simp
theorem arms_step {sp sq : St} {n : Nat} {s : Sp} (h : Arms sp sq (n + 1)) (hg : Good s) : Arms (stp sp s) (stp sq s) n ∧ (stp sp s).down = false := by
  obtain ⟨e1, e2⟩ := arms_chg h hg
  have hd : sp.down = false := by
    cases hd : sp.down with
    | false => rfl
    | true => have := h.down hd; omega
  have hf := h.fs
  have hr := h.room
  have fin : ∀ fs', Arms { sp with left := n, fs := fs' } { sq with fs := fs' } n := fun fs' => ⟨rfl, hr, h.ap, h.aq, h.dq, rfl, fun e => by simp only at e; rw [hd] at e; cases e⟩
  have fin0 : Arms { sp with left := n } sq n := ⟨hf, hr, h.ap, h.aq, h.dq, rfl, fun e => by simp only at e; rw [hd] at e; cases e⟩
  unfold stp
  by_cases k0 : s.kd = 0
  · rw [if_pos k0, if_pos k0]
    unfold app
    rw [e1, e2]
    simp only [if_true]
    rw [hr, hf]
    by_cases hfull : sq.room - tot sq.fs < s.b.length
    · rw [if_pos hfull, if_pos hfull]; exact ⟨⟨rfl, rfl, h.ap, h.aq, h.dq, rfl, fun e => by simp only at e; rw [hd] at e; cases e⟩, hd⟩
    · rw [if_neg hfull, if_neg hfull]; exact ⟨by have := fin (lay ⟨s.nm, gB sq.fs s.nm ++ s.b, gS sq.fs s.nm⟩ sq.fs); simpa [hr] using this, hd⟩
  · rw [if_neg k0, if_neg k0]
    by_cases k1 : s.kd = 1
    · rw [if_pos k1, if_pos k1]
      unfold syn
      rw [e1, e2]
      simp only [if_true]
      rw [hf]
      exact ⟨fin _, hd⟩
    · rw [if_neg k1, if_neg k1]
      have k2 : s.kd = 2 := by unfold Good at hg; omega
      rw [if_pos k2, if_pos k2]
      unfold cut
      rw [e1, e2]
      simp only [if_true]
      rw [hf]
      split
      · exact ⟨⟨rfl, hr, h.ap, h.aq, h.dq, rfl, fun e => by simp only at e; rw [hd] at e; cases e⟩, hd⟩
      · exact ⟨fin _, hd⟩
theorem arms_out {sp sq : St} {s : Sp} (h : Arms sp sq 0) (hg : Good s) : Arms (stp sp s) sq 0 ∧ (stp sp s).down = true := by
  obtain ⟨e1, e2⟩ := arms_chg0 h hg
  have e3 : chg sp s.nm = (9, { sp with down := true }) := Prod.ext e1 e2
  have fin : Arms { sp with down := true } sq 0 := ⟨h.fs, h.room, h.ap, h.aq, h.dq, h.left, fun _ => rfl⟩
  unfold stp
  by_cases k0 : s.kd = 0
  · rw [if_pos k0]; unfold app; rw [e3]; exact ⟨fin, rfl⟩
  · rw [if_neg k0]
    by_cases k1 : s.kd = 1
    · rw [if_pos k1]; unfold syn; rw [e3]; exact ⟨fin, rfl⟩
    · rw [if_neg k1]
      have k2 : s.kd = 2 := by unfold Good at hg; omega
      rw [if_pos k2]; unfold cut; rw [e3]; exact ⟨fin, rfl⟩
/-- two plates, apart from each other -/
structure Duet (B : Nat) (W : World) (q m q2 m2 : Nat) (sp sq : St) (sl sl2 : By → Value) : Prop where
  pp : PA W q m sp sl
  pq : PA W q2 m2 sq sl2
  ap : ∀ k, foot q m sp.fs sl k → ¬ foot q2 m2 sq.fs sl2 k
  bp : ∀ k, foot q m sp.fs sl k → B ≤ k
  bq : ∀ k, foot q2 m2 sq.fs sl2 k → B ≤ k
  bs : B ≤ W.heap.size
theorem Duet.below {B : Nat} {W W' : World} {q m q2 m2 : Nat} {sp sq : St} {sl sl2 : By → Value} (h : Duet B W q m q2 m2 sp sq sl sl2) (hb : Below W.heap.size W W') : Duet B W' q m q2 m2 sp sq sl sl2 :=
  ⟨h.pp.below hb, h.pq.below hb, h.ap, h.bp, h.bq, Nat.le_trans h.bs hb.size⟩
theorem Duet.swap {B : Nat} {W : World} {q m q2 m2 : Nat} {sp sq : St} {sl sl2 : By → Value} (h : Duet B W q m q2 m2 sp sq sl sl2) : Duet B W q2 m2 q m sq sp sl2 sl :=
  ⟨h.pq, h.pp, fun k hk hf => h.ap k hf hk, h.bq, h.bp, h.bs⟩
/-- a call of the first plate alone -/
theorem Duet.call {B : Nat} {W W' : World} {q m q2 m2 : Nat} {sp sq sp' : St} {sl sl2 sl' : By → Value} (h : Duet B W q m q2 m2 sp sq sl sl2) (hp : PA W' q m sp' sl') (ho : Out (foot q m sp.fs sl) W W') (hn : ∀ k, foot q m sp'.fs sl' k → foot q m sp.fs sl k ∨ W.heap.size ≤ k) :
    Duet B W' q m q2 m2 sp' sq sl' sl2 ∧ Below B W W' := by
  refine ⟨⟨hp, h.pq.keep (fun k hk => ho.block k (h.pq.foot_lt hk) (fun hf => h.ap k hf hk)), fun k hk hf => ?_, fun k hk => ?_, h.bq, Nat.le_trans h.bs ho.size⟩, ho.below h.bs h.bp⟩
  · rcases hn k hk with hx | hx
    · exact h.ap k hx hf
    · have := h.pq.foot_lt hf; omega
  · rcases hn k hk with hx | hx
    · exact h.bp k hx
    · exact Nat.le_trans h.bs hx
/-- Do of the first plate and a new plate of the reference -/
theorem duet_do {B : Nat} {W : World} {q m q2 m2 r : Nat} {sp sq : St} {sl sl2 s1 : By → Value} {fv : Value} {rl : Int} {sr : St} {s : Sp} {vb vk : Value} (h : Duet B W q m q2 m2 sp sq sl sl2) (hr : RA W r sr s1 fv rl (fun k => B ≤ k ∧ ¬ foot q m sp.fs sl k))
    (hr2 : ¬ foot q2 m2 sq.fs sl2 r) (X0 : Nat → Prop) (hX : ∀ k, X0 k → k < W.heap.size ∧ k ≠ r ∧ ¬ foot q m sp.fs sl k) (hs : StepAt B W s vb vk) :
    Calls Try.prog 11 #[.pointer (some ⟨q, 0, none⟩), .pointer (some ⟨r, 0, none⟩), .agg #[.int .i64 s.kd, .string ⟨s.nm.toArray⟩, vb, .int .i64 s.n, vk]] W fun e w' => DoR sp sr e ∧ (∃ sl', Duet B w' q m q2 m2 (stp sp s) sq sl' sl2 ∧ ∀ k, X0 k → ¬ foot q m (stp sp s).fs sl' k) ∧ Below B W w' ∧ ∀ k, X0 k → w'.heap[k]? = W.heap[k]? := by
  have hd : Duo B W q m r sp sr sl := ⟨h.pp, ⟨s1, fv, rl, hr⟩, h.bp, h.bs⟩
  refine (do_frame B (fun k => X0 k ∨ foot q2 m2 sq.fs sl2 k) q m r sp sr sl s vb vk W hd hs (fun k hk => ?_)).mono ?_
  · rcases hk with hk | hk
    · exact hX k hk
    · exact ⟨h.pq.foot_lt hk, fun e => hr2 (e ▸ hk), fun hf => h.ap k hf hk⟩
  · rintro e w' ⟨h1, ⟨sl', h2, h3⟩, h4, h5⟩
    exact ⟨h1, ⟨sl', ⟨h2.pa, h.pq.keep (fun k hk => h5 k (.inr hk)), fun k hk hf => h3 k (.inr hf) hk, h2.fb, h.bq, h2.bs⟩, fun k hk => h3 k (.inl hk)⟩, h4, fun k hk => h5 k (.inl hk)⟩
theorem u64_nn (n : Int) : 0 ≤ IntKind.u64.wrap n := by
  have e : IntKind.u64.wrap n = n % 18446744073709551616 := by unfold IntKind.wrap; simp [IntKind.signed, IntKind.bits]
  rw [e]; exact Int.emod_nonneg _ (by decide)
theorem mod120 (n : Int) (c : Int) (hc : 0 < c) (hc2 : c ≤ 1000) : ∃ N : Nat, wrap64 ((IntKind.u64.wrap n).tmod c) = (N : Int) ∧ (N : Int) < c := by
  have h0 : 0 ≤ IntKind.u64.wrap n := u64_nn n
  have h1 := Int.tmod_nonneg c h0
  have h2 := Int.tmod_lt_of_pos (IntKind.u64.wrap n) hc
  refine ⟨((IntKind.u64.wrap n).tmod c).toNat, ?_, by omega⟩
  rw [IntWalk.wrap64_in _ (by omega)]
  omega
set_option maxRecDepth 100000 in
set_option maxHeartbeats 4000000 in
theorem _root_.Go.Proofs.Ytclaahailnpdoaa.plateArmed_walk (n : Int) (v : Value) (l : List Sp) (vb vk : Nat → Value) (w : World) (h : SpsAt w.heap.size w v l vb vk) (hl : l.length ≤ 4611686018427387904) :
    Calls Try.prog 4 #[v, .int .i64 n] w fun e w' => e = .returned (.bool true) ∧ Below w.heap.size w w' := by
  obtain ⟨a, c, rfl⟩ := h.shp
  have H := Lib.hid h
  clear h
  go_enter Try.func4, Try.ntmps4
  go_wp2_with fail
  obtain ⟨N, hN, hN120⟩ := mod120 n 120 (by decide) (by decide)
  rw [hN]
  clear hN
  refine (new_any 100000 (fun _ => .slice none 0 0) w (by decide)).mono ?_
  rintro e w1 ⟨q, m, rfl, hp1, hb1, hq, hm⟩
  have H1 := Lib.hid (And.intro hp1 (And.intro hb1 (And.intro hq hm)))
  clear hp1 hb1 hq hm
  go_wp2_with fail
  refine (new_any 100000 (fun _ => .slice none 0 0) w1 (by decide)).mono ?_
  rintro e w2 ⟨q2, m2, rfl, hp2, hb2, hq2, hm2⟩
  have hbw2 : Below w.heap.size w w2 := H1.out.2.1.trans (hb2.mono H1.out.2.1.size)
  have hD2 : Duet w.heap.size w2 q m q2 m2 (newS 100000) (newS 100000) (fun _ => .slice none 0 0) (fun _ => .slice none 0 0) := by
    have hs1 := H1.out.2.1.size
    have f1 : ∀ k, foot q m (newS 100000).fs (fun _ => .slice none 0 0) k → w.heap.size ≤ k ∧ k < w1.heap.size := fun k hk => by
      refine ⟨?_, H1.out.1.foot_lt hk⟩
      rcases hk with rfl | rfl | ⟨f, hf, _⟩
      · exact H1.out.2.2.1
      · exact H1.out.2.2.2
      · cases hf
    have f2 : ∀ k, foot q2 m2 (newS 100000).fs (fun _ => .slice none 0 0) k → w1.heap.size ≤ k := fun k hk => by
      rcases hk with rfl | rfl | ⟨f, hf, _⟩
      · exact hq2
      · exact hm2
      · cases hf
    exact ⟨H1.out.1.below hb2, hp2, fun k hk hf => by have := (f1 k hk).2; have := f2 k hf; omega, fun k hk => (f1 k hk).1, fun k hk => Nat.le_trans hs1 (f2 k hk), hbw2.size⟩
  have H2 := Lib.hid (And.intro hD2 hbw2)
  clear hp2 hb2 hq2 hm2 hD2 hbw2 H1
  go_wp2_with fail
  refine (arm_any q m _ _ (N : Int) w2 H2.out.1.pp (by omega)).mono ?_
  rintro e w3 ⟨rfl, hp3, ho3⟩
  have hst : arm (newS 100000) (N : Int) = ⟨[], 100000, true, N, false⟩ := by
    unfold arm newS
    simp
  rw [hst] at hp3
  have hc3 := H2.out.1.call (sp' := ⟨[], 100000, true, N, false⟩) hp3 (ho3.mono (fun k _ e => .inl e)) (fun k hk => .inl hk)
  have H3 := Lib.hid (And.intro hc3.1 (H2.out.2.trans hc3.2))
  have HA : Hid (Arms ⟨[], 100000, true, N, false⟩ (newS 100000) N) := Lib.hid ⟨rfl, rfl, rfl, rfl, rfl, rfl, fun e => by cases e⟩
  clear hp3 ho3 hst hc3 H2
  go_wp2_with fail
  obtain ⟨sp0, hsp0⟩ : ∃ sp0 : St, sp0 = ⟨[], 100000, true, N, false⟩ := ⟨_, rfl⟩
  obtain ⟨sq0, hsq0⟩ : ∃ sq0 : St, sq0 = newS 100000 := ⟨_, rfl⟩
  obtain ⟨sl0, hsl0⟩ : ∃ sl0 : By → Value, sl0 = fun _ => .slice none 0 0 := ⟨_, rfl⟩
  have hd0 := H3.out.1
  have hb0 := H3.out.2
  have hA0 := HA.out
  rw [← hsp0, ← hsq0, ← hsl0] at hd0
  rw [← hsp0, ← hsq0] at hA0
  clear hsp0 hsq0 hsl0 H3 HA
  go_loopw [1, 9] (fun nn i wr => ∃ (k N : Nat) (sp sq : St) (sl sl2 : By → Value), k ≤ l.length ∧ i = .int .i64 (k : Int) ∧ nn = .int .i64 (N : Int) ∧ (N : Int) < 120 ∧ Arms sp sq N ∧ Duet w.heap.size wr q m q2 m2 sp sq sl sl2 ∧ Below w.heap.size w wr) (fun _ i _ => l.length - (intOf i).toNat)
  case atStart => exact ⟨0, N, sp0, sq0, sl0, sl0, Nat.zero_le _, rfl, rfl, hN120, hA0, hd0, hb0⟩
  case round =>
    clear hd0 hb0 hA0 hN120
    obtain ⟨k, N, sp, sq, sl, sl2, hk, rfl, rfl, hN, hA, hD, hb⟩ := hrel
    have HST := Lib.hid (And.intro hA (And.intro hD hb))
    clear hA hD hb
    by_cases hkn : k < l.length
    case neg =>
      have t1 : ¬ (k : Int) < (l.length : Int) := by omega
      have HNP := names_any q m sp sl wr HST.out.2.1.pp
      rw [HST.out.1.fs] at HNP
      obtain ⟨NL, hNL⟩ : ∃ NL, NL = (names sq.fs).length := ⟨_, rfl⟩
      have HNL := Lib.hid hNL
      clear hNL
      go_wp2_with fail
      refine HNP.mono ?_
      rintro e w5 ⟨v1, rfl, hn1, hb5⟩
      obtain ⟨na, nc, hne⟩ := hn1.rd.slice
      subst hne
      rw [← HNL.out]
      have H5 := Lib.hid (HST.out.2.1.below hb5)
      have HB5 := Lib.hid (HST.out.2.2.trans (hb5.mono HST.out.2.2.size))
      clear hn1 hb5 HNP
      go_wp2_with fail
      refine (names_any q2 m2 sq sl2 w5 H5.out.pq).mono ?_
      rintro e w6 ⟨v2, rfl, hn2, hb6⟩
      obtain ⟨nb, nd, hne⟩ := hn2.rd.slice
      subst hne
      rw [← HNL.out]
      have H6 := Lib.hid (H5.out.below hb6)
      have HB6 := Lib.hid (HB5.out.trans (hb6.mono HB5.out.size))
      clear hn2 hb6 H5 HB5
      go_wp2_with fail
      refine (known_any _).mono ?_
      rintro e w7 ⟨rfl, hb7⟩
      have H7 := Lib.hid (H6.out.below hb7)
      have HB7 := Lib.hid (HB6.out.trans (hb7.mono HB6.out.size))
      clear hb7 H6 HB6
      obtain ⟨TT, hTT⟩ : ∃ TT, TT = tot sq.fs := ⟨_, rfl⟩
      have HUP := used_any q m sp sl w7 H7.out.pp
      have HUQ := used_any q2 m2 sq sl2 w7 H7.out.pq
      rw [HST.out.1.fs, ← hTT] at HUP
      rw [← hTT] at HUQ
      clear hTT
      go_wp2_with fail
      refine HUP.mono ?_
      rintro e W ⟨rfl, hw⟩
      obtain rfl := hw.symm
      go_wp2_with fail
      refine HUQ.mono ?_
      rintro e W ⟨rfl, hw⟩
      obtain rfl := hw.symm
      clear HUP HUQ
      go_wp2_with fail
      refine (crash_any q m sp sl (.slice none 0 0) [] w7 H7.out.pp (Rd.nil _ _) (fun h0 => absurd h0 (by simp))).mono ?_
      rintro e w8 ⟨rfl, slp, hp8, ho8, hn8⟩
      have hc8 := H7.out.call hp8 ho8 (fun k hk => .inl (hn8 k hk))
      have H8 := Lib.hid hc8.1.swap
      have HB8 := Lib.hid (HB7.out.trans hc8.2)
      clear hp8 ho8 hn8 hc8
      go_wp2_with fail
      refine (crash_any q2 m2 sq sl2 (.slice none 0 0) [] w8 H8.out.pp (Rd.nil _ _) (fun h0 => absurd h0 (by simp))).mono ?_
      rintro e w9 ⟨rfl, slq, hp9, ho9, hn9⟩
      have hc9 := H8.out.call hp9 ho9 (fun k hk => .inl (hn9 k hk))
      have H9 := Lib.hid hc9.1.swap
      have HB9 := Lib.hid (HB8.out.trans hc9.2)
      have HCF : Hid ((crash sp []).fs = (crash sq []).fs ∧ (crash sp []).down = false ∧ (crash sq []).down = false) := Lib.hid ⟨by unfold crash; simp only; rw [HST.out.1.fs], rfl, rfl⟩
      clear hp9 ho9 hn9 hc9 H7 HB7 H8 HB8
      obtain ⟨cp, hcp⟩ : ∃ cp, cp = crash sp [] := ⟨_, rfl⟩
      obtain ⟨cq, hcq⟩ : ∃ cq, cq = crash sq [] := ⟨_, rfl⟩
      rw [← hcp, ← hcq] at H9 HCF
      clear hcp hcq
      have HNP := names_any q m cp slp w9 H9.out.pp
      rw [HCF.out.1] at HNP
      obtain ⟨NM, hNM⟩ : ∃ NM, NM = cq.fs.length := ⟨_, rfl⟩
      have HNM := Lib.hid hNM
      have HNN : Hid ((names cq.fs).length = NM) := Lib.hid (by rw [hNM]; unfold names; rw [List.length_map])
      clear hNM
      go_wp2_with fail
      refine HNP.mono ?_
      rintro e w10 ⟨v3, rfl, hn3, hb10⟩
      obtain ⟨xa, xc, hne⟩ := hn3.rd.slice
      subst hne
      have hr3 := hn3.rd
      rw [HNN.out] at hr3 ⊢
      have H10 := Lib.hid (And.intro (H9.out.below hb10) (And.intro hr3 (HB9.out.trans (hb10.mono HB9.out.size))))
      clear hn3 hb10 HNP hr3
      go_wp2_with fail
      refine (names_any q2 m2 cq slq w10 H10.out.1.pq).mono ?_
      rintro e w11 ⟨v4, rfl, hn4, hb11⟩
      obtain ⟨ya, yc, hne⟩ := hn4.rd.slice
      subst hne
      have hr4 := hn4.rd
      rw [HNN.out] at hr4 ⊢
      have hd11 := H10.out.1.below hb11
      have hr11 := H10.out.2.1.below hb11
      have hb12 := H10.out.2.2.trans (hb11.mono H10.out.2.2.size)
      have HLM : Hid (NM ≤ 268435456) := Lib.hid (by
        have h1 := len_tot cq.fs (fun f hf => (hd11.pq.fit.file f hf).1)
        have h2 := hd11.pq.fit.tot
        have h3 := hd11.pq.fit.room
        rw [HNM.out]; omega)
      have hLM := HLM.out
      clear hn4 hb11 H9 HB9 H10
      go_wp2_with fail
      go_loopw [15] (fun i wr => ∃ j : Nat, j ≤ NM ∧ i = .int .i64 (j : Int) ∧ Duet w.heap.size wr q m q2 m2 cp cq slp slq ∧ Rd wr 1 (.slice xa NM xc) NM ((names cq.fs).map sv) ∧ Rd wr 1 (.slice ya NM yc) NM ((names cq.fs).map sv) ∧ Below w.heap.size w wr) (fun i _ => NM - (intOf i).toNat)
      case atStart => exact ⟨0, Nat.zero_le _, rfl, hd11, hr11, hr4, hb12⟩
      case round =>
        clear hd11 hr11 hr4 hb12
        obtain ⟨j, hj, rfl, hdz, hrx, hry, hbz⟩ := hrel
        by_cases hjn : j < NM
        case neg =>
          have hj' : ¬ (j : Int) < (NM : Int) := by omega
          clear hdz hrx hry
          go_wp2_with fail
          go_ret
          exact ⟨rfl, hbz⟩
        case pos =>
        have t5 : (j : Int) < (NM : Int) := by omega
        obtain ⟨f, hf⟩ : ∃ f, cq.fs[j]? = some f := ⟨_, List.getElem?_eq_getElem (by have := HNM.out; omega)⟩
        have hfm := List.mem_of_getElem? hf
        have hff := hdz.pq.fit.file f hfm
        have hgm := get_mem hdz.pq.fit.asc hfm
        have hfl : f.b.length ≤ 268435456 := by
          have h1 := tot_take_succ hf
          have h2 := tot_take_le cq.fs (j + 1)
          have h3 := hdz.pq.fit.tot
          have h4 := hdz.pq.fit.room
          omega
        have hak : askedC false f.n = 0 := by unfold askedC; rw [if_neg (by omega)]; rfl
        have hnm : ((names cq.fs).map sv)[j]? = some (.string ⟨f.n.toArray⟩) := by unfold names; rw [List.getElem?_map, List.getElem?_map, hf]; rfl
        have HF := Lib.hid (And.intro hff (And.intro hgm (And.intro hfl hnm)))
        have HR1 := read_any q m cp slp f.n wr hdz.pp (by omega)
        have HR2 : Hid (∀ W, Duet w.heap.size W q m q2 m2 cp cq slp slq → Calls Try.prog 18 #[.pointer (some ⟨q2, 0, none⟩), .string ⟨f.n.toArray⟩] W fun e w' => ∃ v', e = .returned (.tuple #[v', .int .i64 0]) ∧ OwnB w' W.heap.size v' f.b ∧ Below W.heap.size W w') := Lib.hid (fun W hW => by
          have h := read_any q2 m2 cq slq f.n W hW.pq (by omega)
          rw [HCF.out.2.2, hak, if_pos rfl, show gB cq.fs f.n = f.b from by unfold gB; rw [hgm]; rfl] at h
          exact h)
        rw [HCF.out.2.1, hak, if_pos rfl, HCF.out.1, show gB cq.fs f.n = f.b from by unfold gB; rw [hgm]; rfl] at HR1
        obtain ⟨ba, oa, ca, e1, hca, hc1⟩ := hrx.pos (by omega)
        obtain ⟨bb, ob, cb, e2, hcb, hc2⟩ := hry.pos (by omega)
        cases e1
        cases e2
        have z1 := hc1 j _ hnm
        have z2 := hc2 j _ hnm
        have HZ := Lib.hid (And.intro hdz (And.intro hrx (And.intro hry hbz)))
        have HFC : Hid (∀ W, Below wr.heap.size wr W → W.cell? ⟨ba, oa + j, none⟩ = some (.string ⟨f.n.toArray⟩) ∧ W.cell? ⟨bb, ob + j, none⟩ = some (.string ⟨f.n.toArray⟩)) := Lib.hid (fun W hW => by
          obtain ⟨ba', oa', ca', e1, _, hc1⟩ := (HZ.out.2.1.below hW).pos (by omega)
          obtain ⟨bb', ob', cb', e2, _, hc2⟩ := (HZ.out.2.2.1.below hW).pos (by omega)
          cases e1
          cases e2
          exact ⟨hc1 j _ HF.out.2.2.2, hc2 j _ HF.out.2.2.2⟩)
        clear hdz hrx hry hbz hf hfm hff hgm hfl hak hnm hc1 hc2 hca hcb
        go_wp2_with fail
        refine HR1.mono ?_
        rintro e wa ⟨vx, rfl, hox, hba⟩
        obtain ⟨ra, rc, hre⟩ := hox.rd.slice
        subst hre
        have HA1 := Lib.hid (And.intro hba hox.rd)
        obtain ⟨z1', z2'⟩ := HFC.out wa hba
        clear hba hox z1 z2 HR1
        go_wp2_with fail
        refine (HR2.out wa (HZ.out.1.below HA1.out.1)).mono ?_
        rintro e wb ⟨vy, rfl, hoy, hbb⟩
        obtain ⟨sa, sc, hse⟩ := hoy.rd.slice
        subst hse
        have HB1 := Lib.hid (And.intro (HA1.out.1.trans (hbb.mono HA1.out.1.size)) (And.intro (HA1.out.2.below hbb) hoy.rd))
        clear hbb hoy z1' z2'
        go_wp2_with fail
        refine wp_region_U (S := (fun W => Below wr.heap.size wr W ∧ Rd W 1 (.slice ra f.b.length rc) f.b.length (Lib.byteCells f.b) ∧ Rd W 1 (.slice sa f.b.length sc) f.b.length (Lib.byteCells f.b))) (by kernel_rfl) ?_ ?_
        · exact ⟨HB1.out.1.drew, HB1.out.2.1.drewN 1, HB1.out.2.2.drewN 1⟩
        refine wpU_take (i := 0) (oi := ?oi1) (v := ?v1) ?hi1 (by kernel_rfl) (by kernel_rfl) (by kernel_rfl) ?hy1 ?rest1
        case hi1 => (simp only [List.getElem?_toArray, List.getElem?_cons_succ, List.getElem?_cons_zero]; rfl)
        case hy1 => (refine Or.inl ⟨by rfl, ?_⟩; intro W hSw; (obtain ⟨z1, z2⟩ := HFC.out _ hSw.1; clear hSw); go_simp; (try with_reducible rfl))
        try simp only [Act.put, List.setIfInBounds_toArray, List.set_cons_zero, List.set_cons_succ]
        refine wpU_take (i := 1) (oi := ?oi2) (v := ?v2) ?hi2 (by kernel_rfl) (by kernel_rfl) (by kernel_rfl) ?hy2 ?rest2
        case hi2 => (simp only [List.getElem?_toArray, List.getElem?_cons_succ, List.getElem?_cons_zero]; rfl)
        case hy2 => (refine Or.inl ⟨by rfl, ?_⟩; intro W hSw; (obtain ⟨z1, z2⟩ := HFC.out _ hSw.1; clear hSw); go_simp; (try with_reducible rfl))
        try simp only [Act.put, List.setIfInBounds_toArray, List.set_cons_zero, List.set_cons_succ]
        refine wpU_take (i := 2) (oi := ?oi3) (v := ?v3) ?hi3 (by kernel_rfl) (by kernel_rfl) (by kernel_rfl) ?hy3 ?rest3
        case hi3 => (simp only [List.getElem?_toArray, List.getElem?_cons_succ, List.getElem?_cons_zero]; rfl)
        case hy3 => (refine Or.inl ⟨by rfl, ?_⟩; intro W hSw; (obtain ⟨z1, z2⟩ := HFC.out _ hSw.1; clear hSw); go_simp; (try with_reducible rfl))
        try simp only [Act.put, List.setIfInBounds_toArray, List.set_cons_zero, List.set_cons_succ]
        refine wpU_take (i := 3) (oi := ?oi4) (v := ?v4) ?hi4 (by kernel_rfl) (by kernel_rfl) (by kernel_rfl) ?hy4 ?rest4
        case hi4 => (simp only [List.getElem?_toArray, List.getElem?_cons_succ, List.getElem?_cons_zero]; rfl)
        case hy4 => (refine Or.inl ⟨by rfl, ?_⟩; intro W hSw; (obtain ⟨z1, z2⟩ := HFC.out _ hSw.1; clear hSw); go_simp; (try with_reducible rfl))
        try simp only [Act.put, List.setIfInBounds_toArray, List.set_cons_zero, List.set_cons_succ]
        refine wpU_take (i := 4) (oi := ?oi5) (v := ?v5) ?hi5 (by kernel_rfl) (by kernel_rfl) (by kernel_rfl) ?hy5 ?rest5
        case hi5 => (simp only [List.getElem?_toArray, List.getElem?_cons_succ, List.getElem?_cons_zero]; rfl)
        case hy5 => (refine Or.inl ⟨by rfl, ?_⟩; intro W hSw; (obtain ⟨z1, z2⟩ := HFC.out _ hSw.1; clear hSw); go_simp; (try with_reducible rfl))
        try simp only [Act.put, List.setIfInBounds_toArray, List.set_cons_zero, List.set_cons_succ]
        refine wpU_take (i := 5) (oi := ?oi6) (v := ?v6) ?hi6 (by kernel_rfl) (by kernel_rfl) (by kernel_rfl) ?hy6 ?rest6
        case hi6 => (simp only [List.getElem?_toArray, List.getElem?_cons_succ, List.getElem?_cons_zero]; rfl)
        case hy6 => (refine Or.inl ⟨by rfl, ?_⟩; intro W hSw; (obtain ⟨z1, z2⟩ := HFC.out _ hSw.1; clear hSw); go_simp; (try with_reducible rfl))
        try simp only [Act.put, List.setIfInBounds_toArray, List.set_cons_zero, List.set_cons_succ]
        refine wpU_take (i := 6) (oi := ?oi7) (v := ?v7) ?hi7 (by kernel_rfl) (by kernel_rfl) (by kernel_rfl) ?hy7 ?rest7
        case hi7 => (simp only [List.getElem?_toArray, List.getElem?_cons_succ, List.getElem?_cons_zero]; rfl)
        case hy7 => (refine Or.inl ⟨by rfl, ?_⟩; intro W hSw; (obtain ⟨z1, z2⟩ := HFC.out _ hSw.1; clear hSw); go_simp; (try with_reducible rfl))
        try simp only [Act.put, List.setIfInBounds_toArray, List.set_cons_zero, List.set_cons_succ]
        refine wpU_take (i := 7) (oi := ?oi8) (v := ?v8) ?hi8 (by kernel_rfl) (by kernel_rfl) (by kernel_rfl) ?hy8 ?rest8
        case hi8 => (simp only [List.getElem?_toArray, List.getElem?_cons_succ, List.getElem?_cons_zero]; rfl)
        case hy8 => (refine Or.inl ⟨by rfl, ?_⟩; intro W hSw; (obtain ⟨z1, z2⟩ := HFC.out _ hSw.1; clear hSw); go_simp; (try with_reducible rfl))
        try simp only [Act.put, List.setIfInBounds_toArray, List.set_cons_zero, List.set_cons_succ]
        refine wpU_take (i := 8) (oi := ?oi9) (v := ?v9) ?hi9 (by kernel_rfl) (by kernel_rfl) (by kernel_rfl) ?hy9 ?rest9
        case hi9 => (simp only [List.getElem?_toArray, List.getElem?_cons_succ, List.getElem?_cons_zero]; rfl)
        case hy9 => (refine Or.inl ⟨by rfl, ?_⟩; intro W hSw; (obtain ⟨z1, z2⟩ := HFC.out _ hSw.1; clear hSw); go_simp; (try with_reducible rfl))
        try simp only [Act.put, List.setIfInBounds_toArray, List.set_cons_zero, List.set_cons_succ]
        refine wpU_take (i := 9) (oi := ?oi10) (v := ?v10) ?hi10 (by kernel_rfl) (by kernel_rfl) (by kernel_rfl) ?hy10 ?rest10
        case hi10 => (simp only [List.getElem?_toArray, List.getElem?_cons_succ, List.getElem?_cons_zero]; rfl)
        case hy10 => (refine Or.inl ⟨by rfl, ?_⟩; intro W hSw; (obtain ⟨z1, z2⟩ := HFC.out _ hSw.1; clear hSw); go_simp; (try with_reducible rfl))
        try simp only [Act.put, List.setIfInBounds_toArray, List.set_cons_zero, List.set_cons_succ]
        refine wpU_take (i := 10) (oi := ?oi11) (v := ?v11) ?hi11 (by kernel_rfl) (by kernel_rfl) (by kernel_rfl) ?hy11 ?rest11
        case hi11 => (simp only [List.getElem?_toArray, List.getElem?_cons_succ, List.getElem?_cons_zero]; rfl)
        case hy11 => (refine Or.inl ⟨by rfl, ?_⟩; intro W hSw; (obtain ⟨z1, z2⟩ := HFC.out _ hSw.1; clear hSw); go_simp; (try with_reducible rfl))
        try simp only [Act.put, List.setIfInBounds_toArray, List.set_cons_zero, List.set_cons_succ]
        refine wpU_take (i := 11) (oi := ?oi12) (v := ?v12) ?hi12 (by kernel_rfl) (by kernel_rfl) (by kernel_rfl) ?hy12 ?rest12
        case hi12 => (simp only [List.getElem?_toArray, List.getElem?_cons_succ, List.getElem?_cons_zero]; rfl)
        case hy12 => (refine Or.inl ⟨by rfl, ?_⟩; intro W hSw; (obtain ⟨z1, z2⟩ := HFC.out _ hSw.1; clear hSw); go_simp; (try with_reducible rfl))
        try simp only [Act.put, List.setIfInBounds_toArray, List.set_cons_zero, List.set_cons_succ]
        refine wpU_take (i := 12) (oi := ?oi13) (v := .bool true) ?hi13 (by kernel_rfl) (by kernel_rfl) (by kernel_rfl) ?hy13 ?rest13
        case hi13 => (simp only [List.getElem?_toArray, List.getElem?_cons_succ, List.getElem?_cons_zero]; rfl)
        case hy13 =>
          refine Or.inr (Or.inr (Or.inl ⟨by rfl, 19, #[.slice ra f.b.length rc, .slice sa f.b.length sc], fun W hSw => (by go_simp), fun W hSw => ?_⟩))
          refine (same_any f.b f.b _ _ W hSw.2.1 hSw.2.2 (by have := HF.out.2.2.1; omega)).mono ?_
          rintro e w' ⟨rfl, hb'⟩
          refine ⟨by rw [decide_eq_true rfl], hSw.1.trans (hb'.mono hSw.1.size), hSw.2.1.below hb', hSw.2.2.below hb'⟩
        try simp only [Act.put, List.setIfInBounds_toArray, List.set_cons_zero, List.set_cons_succ]
        refine wpU_take (i := 13) (oi := ?oi14) (v := ?v14) ?hi14 (by kernel_rfl) (by kernel_rfl) (by kernel_rfl) ?hy14 ?rest14
        case hi14 => (simp only [List.getElem?_toArray, List.getElem?_cons_succ, List.getElem?_cons_zero]; rfl)
        case hy14 => (refine Or.inl ⟨by rfl, ?_⟩; intro W hSw; (obtain ⟨z1, z2⟩ := HFC.out _ hSw.1; clear hSw); go_simp; (try with_reducible rfl))
        try simp only [Act.put, List.setIfInBounds_toArray, List.set_cons_zero, List.set_cons_succ]
        refine wpU_take (i := 14) (oi := ?oi15) (v := ?v15) ?hi15 (by kernel_rfl) (by kernel_rfl) (by kernel_rfl) ?hy15 ?rest15
        case hi15 => (simp only [List.getElem?_toArray, List.getElem?_cons_succ, List.getElem?_cons_zero]; rfl)
        case hy15 => (refine Or.inl ⟨by rfl, ?_⟩; intro W hSw; (obtain ⟨z1, z2⟩ := HFC.out _ hSw.1; clear hSw); go_simp; (try with_reducible rfl))
        try simp only [Act.put, List.setIfInBounds_toArray, List.set_cons_zero, List.set_cons_succ]
        refine wpU_done (by kernel_rfl) ?_ _
        intro wc hSw
        have HC1 := Lib.hid hSw.1
        clear hSw
        go_wp2_with fail
        go_roundw
        case rel => exact ⟨j + 1, by omega, by go_num, HZ.out.1.below HC1.out, HZ.out.2.1.below HC1.out, HZ.out.2.2.1.below HC1.out, HZ.out.2.2.2.trans (HC1.out.mono HZ.out.2.2.2.size)⟩
        case measure => simp [intOf]; omega
    case pos =>
    have t1 : (k : Int) < (l.length : Int) := by omega
    by_cases hk1 : (k : Int) < 120
    case neg =>
      have HNP := names_any q m sp sl wr HST.out.2.1.pp
      rw [HST.out.1.fs] at HNP
      obtain ⟨NL, hNL⟩ : ∃ NL, NL = (names sq.fs).length := ⟨_, rfl⟩
      have HNL := Lib.hid hNL
      clear hNL
      go_wp2_with fail
      refine HNP.mono ?_
      rintro e w5 ⟨v1, rfl, hn1, hb5⟩
      obtain ⟨na, nc, hne⟩ := hn1.rd.slice
      subst hne
      rw [← HNL.out]
      have H5 := Lib.hid (HST.out.2.1.below hb5)
      have HB5 := Lib.hid (HST.out.2.2.trans (hb5.mono HST.out.2.2.size))
      clear hn1 hb5 HNP
      go_wp2_with fail
      refine (names_any q2 m2 sq sl2 w5 H5.out.pq).mono ?_
      rintro e w6 ⟨v2, rfl, hn2, hb6⟩
      obtain ⟨nb, nd, hne⟩ := hn2.rd.slice
      subst hne
      rw [← HNL.out]
      have H6 := Lib.hid (H5.out.below hb6)
      have HB6 := Lib.hid (HB5.out.trans (hb6.mono HB5.out.size))
      clear hn2 hb6 H5 HB5
      go_wp2_with fail
      refine (known_any _).mono ?_
      rintro e w7 ⟨rfl, hb7⟩
      have H7 := Lib.hid (H6.out.below hb7)
      have HB7 := Lib.hid (HB6.out.trans (hb7.mono HB6.out.size))
      clear hb7 H6 HB6
      obtain ⟨TT, hTT⟩ : ∃ TT, TT = tot sq.fs := ⟨_, rfl⟩
      have HUP := used_any q m sp sl w7 H7.out.pp
      have HUQ := used_any q2 m2 sq sl2 w7 H7.out.pq
      rw [HST.out.1.fs, ← hTT] at HUP
      rw [← hTT] at HUQ
      clear hTT
      go_wp2_with fail
      refine HUP.mono ?_
      rintro e W ⟨rfl, hw⟩
      obtain rfl := hw.symm
      go_wp2_with fail
      refine HUQ.mono ?_
      rintro e W ⟨rfl, hw⟩
      obtain rfl := hw.symm
      clear HUP HUQ
      go_wp2_with fail
      refine (crash_any q m sp sl (.slice none 0 0) [] w7 H7.out.pp (Rd.nil _ _) (fun h0 => absurd h0 (by simp))).mono ?_
      rintro e w8 ⟨rfl, slp, hp8, ho8, hn8⟩
      have hc8 := H7.out.call hp8 ho8 (fun k hk => .inl (hn8 k hk))
      have H8 := Lib.hid hc8.1.swap
      have HB8 := Lib.hid (HB7.out.trans hc8.2)
      clear hp8 ho8 hn8 hc8
      go_wp2_with fail
      refine (crash_any q2 m2 sq sl2 (.slice none 0 0) [] w8 H8.out.pp (Rd.nil _ _) (fun h0 => absurd h0 (by simp))).mono ?_
      rintro e w9 ⟨rfl, slq, hp9, ho9, hn9⟩
      have hc9 := H8.out.call hp9 ho9 (fun k hk => .inl (hn9 k hk))
      have H9 := Lib.hid hc9.1.swap
      have HB9 := Lib.hid (HB8.out.trans hc9.2)
      have HCF : Hid ((crash sp []).fs = (crash sq []).fs ∧ (crash sp []).down = false ∧ (crash sq []).down = false) := Lib.hid ⟨by unfold crash; simp only; rw [HST.out.1.fs], rfl, rfl⟩
      clear hp9 ho9 hn9 hc9 H7 HB7 H8 HB8
      obtain ⟨cp, hcp⟩ : ∃ cp, cp = crash sp [] := ⟨_, rfl⟩
      obtain ⟨cq, hcq⟩ : ∃ cq, cq = crash sq [] := ⟨_, rfl⟩
      rw [← hcp, ← hcq] at H9 HCF
      clear hcp hcq
      have HNP := names_any q m cp slp w9 H9.out.pp
      rw [HCF.out.1] at HNP
      obtain ⟨NM, hNM⟩ : ∃ NM, NM = cq.fs.length := ⟨_, rfl⟩
      have HNM := Lib.hid hNM
      have HNN : Hid ((names cq.fs).length = NM) := Lib.hid (by rw [hNM]; unfold names; rw [List.length_map])
      clear hNM
      go_wp2_with fail
      refine HNP.mono ?_
      rintro e w10 ⟨v3, rfl, hn3, hb10⟩
      obtain ⟨xa, xc, hne⟩ := hn3.rd.slice
      subst hne
      have hr3 := hn3.rd
      rw [HNN.out] at hr3 ⊢
      have H10 := Lib.hid (And.intro (H9.out.below hb10) (And.intro hr3 (HB9.out.trans (hb10.mono HB9.out.size))))
      clear hn3 hb10 HNP hr3
      go_wp2_with fail
      refine (names_any q2 m2 cq slq w10 H10.out.1.pq).mono ?_
      rintro e w11 ⟨v4, rfl, hn4, hb11⟩
      obtain ⟨ya, yc, hne⟩ := hn4.rd.slice
      subst hne
      have hr4 := hn4.rd
      rw [HNN.out] at hr4 ⊢
      have hd11 := H10.out.1.below hb11
      have hr11 := H10.out.2.1.below hb11
      have hb12 := H10.out.2.2.trans (hb11.mono H10.out.2.2.size)
      have HLM : Hid (NM ≤ 268435456) := Lib.hid (by
        have h1 := len_tot cq.fs (fun f hf => (hd11.pq.fit.file f hf).1)
        have h2 := hd11.pq.fit.tot
        have h3 := hd11.pq.fit.room
        rw [HNM.out]; omega)
      have hLM := HLM.out
      clear hn4 hb11 H9 HB9 H10
      go_wp2_with fail
      go_loopw [15] (fun i wr => ∃ j : Nat, j ≤ NM ∧ i = .int .i64 (j : Int) ∧ Duet w.heap.size wr q m q2 m2 cp cq slp slq ∧ Rd wr 1 (.slice xa NM xc) NM ((names cq.fs).map sv) ∧ Rd wr 1 (.slice ya NM yc) NM ((names cq.fs).map sv) ∧ Below w.heap.size w wr) (fun i _ => NM - (intOf i).toNat)
      case atStart => exact ⟨0, Nat.zero_le _, rfl, hd11, hr11, hr4, hb12⟩
      case round =>
        clear hd11 hr11 hr4 hb12
        obtain ⟨j, hj, rfl, hdz, hrx, hry, hbz⟩ := hrel
        by_cases hjn : j < NM
        case neg =>
          have hj' : ¬ (j : Int) < (NM : Int) := by omega
          clear hdz hrx hry
          go_wp2_with fail
          go_ret
          exact ⟨rfl, hbz⟩
        case pos =>
        have t5 : (j : Int) < (NM : Int) := by omega
        obtain ⟨f, hf⟩ : ∃ f, cq.fs[j]? = some f := ⟨_, List.getElem?_eq_getElem (by have := HNM.out; omega)⟩
        have hfm := List.mem_of_getElem? hf
        have hff := hdz.pq.fit.file f hfm
        have hgm := get_mem hdz.pq.fit.asc hfm
        have hfl : f.b.length ≤ 268435456 := by
          have h1 := tot_take_succ hf
          have h2 := tot_take_le cq.fs (j + 1)
          have h3 := hdz.pq.fit.tot
          have h4 := hdz.pq.fit.room
          omega
        have hak : askedC false f.n = 0 := by unfold askedC; rw [if_neg (by omega)]; rfl
        have hnm : ((names cq.fs).map sv)[j]? = some (.string ⟨f.n.toArray⟩) := by unfold names; rw [List.getElem?_map, List.getElem?_map, hf]; rfl
        have HF := Lib.hid (And.intro hff (And.intro hgm (And.intro hfl hnm)))
        have HR1 := read_any q m cp slp f.n wr hdz.pp (by omega)
        have HR2 : Hid (∀ W, Duet w.heap.size W q m q2 m2 cp cq slp slq → Calls Try.prog 18 #[.pointer (some ⟨q2, 0, none⟩), .string ⟨f.n.toArray⟩] W fun e w' => ∃ v', e = .returned (.tuple #[v', .int .i64 0]) ∧ OwnB w' W.heap.size v' f.b ∧ Below W.heap.size W w') := Lib.hid (fun W hW => by
          have h := read_any q2 m2 cq slq f.n W hW.pq (by omega)
          rw [HCF.out.2.2, hak, if_pos rfl, show gB cq.fs f.n = f.b from by unfold gB; rw [hgm]; rfl] at h
          exact h)
        rw [HCF.out.2.1, hak, if_pos rfl, HCF.out.1, show gB cq.fs f.n = f.b from by unfold gB; rw [hgm]; rfl] at HR1
        obtain ⟨ba, oa, ca, e1, hca, hc1⟩ := hrx.pos (by omega)
        obtain ⟨bb, ob, cb, e2, hcb, hc2⟩ := hry.pos (by omega)
        cases e1
        cases e2
        have z1 := hc1 j _ hnm
        have z2 := hc2 j _ hnm
        have HZ := Lib.hid (And.intro hdz (And.intro hrx (And.intro hry hbz)))
        have HFC : Hid (∀ W, Below wr.heap.size wr W → W.cell? ⟨ba, oa + j, none⟩ = some (.string ⟨f.n.toArray⟩) ∧ W.cell? ⟨bb, ob + j, none⟩ = some (.string ⟨f.n.toArray⟩)) := Lib.hid (fun W hW => by
          obtain ⟨ba', oa', ca', e1, _, hc1⟩ := (HZ.out.2.1.below hW).pos (by omega)
          obtain ⟨bb', ob', cb', e2, _, hc2⟩ := (HZ.out.2.2.1.below hW).pos (by omega)
          cases e1
          cases e2
          exact ⟨hc1 j _ HF.out.2.2.2, hc2 j _ HF.out.2.2.2⟩)
        clear hdz hrx hry hbz hf hfm hff hgm hfl hak hnm hc1 hc2 hca hcb
        go_wp2_with fail
        refine HR1.mono ?_
        rintro e wa ⟨vx, rfl, hox, hba⟩
        obtain ⟨ra, rc, hre⟩ := hox.rd.slice
        subst hre
        have HA1 := Lib.hid (And.intro hba hox.rd)
        obtain ⟨z1', z2'⟩ := HFC.out wa hba
        clear hba hox z1 z2 HR1
        go_wp2_with fail
        refine (HR2.out wa (HZ.out.1.below HA1.out.1)).mono ?_
        rintro e wb ⟨vy, rfl, hoy, hbb⟩
        obtain ⟨sa, sc, hse⟩ := hoy.rd.slice
        subst hse
        have HB1 := Lib.hid (And.intro (HA1.out.1.trans (hbb.mono HA1.out.1.size)) (And.intro (HA1.out.2.below hbb) hoy.rd))
        clear hbb hoy z1' z2'
        go_wp2_with fail
        refine wp_region_U (S := (fun W => Below wr.heap.size wr W ∧ Rd W 1 (.slice ra f.b.length rc) f.b.length (Lib.byteCells f.b) ∧ Rd W 1 (.slice sa f.b.length sc) f.b.length (Lib.byteCells f.b))) (by kernel_rfl) ?_ ?_
        · exact ⟨HB1.out.1.drew, HB1.out.2.1.drewN 1, HB1.out.2.2.drewN 1⟩
        refine wpU_take (i := 0) (oi := ?oi16) (v := ?v16) ?hi16 (by kernel_rfl) (by kernel_rfl) (by kernel_rfl) ?hy16 ?rest16
        case hi16 => (simp only [List.getElem?_toArray, List.getElem?_cons_succ, List.getElem?_cons_zero]; rfl)
        case hy16 => (refine Or.inl ⟨by rfl, ?_⟩; intro W hSw; (obtain ⟨z1, z2⟩ := HFC.out _ hSw.1; clear hSw); go_simp; (try with_reducible rfl))
        try simp only [Act.put, List.setIfInBounds_toArray, List.set_cons_zero, List.set_cons_succ]
        refine wpU_take (i := 1) (oi := ?oi17) (v := ?v17) ?hi17 (by kernel_rfl) (by kernel_rfl) (by kernel_rfl) ?hy17 ?rest17
        case hi17 => (simp only [List.getElem?_toArray, List.getElem?_cons_succ, List.getElem?_cons_zero]; rfl)
        case hy17 => (refine Or.inl ⟨by rfl, ?_⟩; intro W hSw; (obtain ⟨z1, z2⟩ := HFC.out _ hSw.1; clear hSw); go_simp; (try with_reducible rfl))
        try simp only [Act.put, List.setIfInBounds_toArray, List.set_cons_zero, List.set_cons_succ]
        refine wpU_take (i := 2) (oi := ?oi18) (v := ?v18) ?hi18 (by kernel_rfl) (by kernel_rfl) (by kernel_rfl) ?hy18 ?rest18
        case hi18 => (simp only [List.getElem?_toArray, List.getElem?_cons_succ, List.getElem?_cons_zero]; rfl)
        case hy18 => (refine Or.inl ⟨by rfl, ?_⟩; intro W hSw; (obtain ⟨z1, z2⟩ := HFC.out _ hSw.1; clear hSw); go_simp; (try with_reducible rfl))
        try simp only [Act.put, List.setIfInBounds_toArray, List.set_cons_zero, List.set_cons_succ]
        refine wpU_take (i := 3) (oi := ?oi19) (v := ?v19) ?hi19 (by kernel_rfl) (by kernel_rfl) (by kernel_rfl) ?hy19 ?rest19
        case hi19 => (simp only [List.getElem?_toArray, List.getElem?_cons_succ, List.getElem?_cons_zero]; rfl)
        case hy19 => (refine Or.inl ⟨by rfl, ?_⟩; intro W hSw; (obtain ⟨z1, z2⟩ := HFC.out _ hSw.1; clear hSw); go_simp; (try with_reducible rfl))
        try simp only [Act.put, List.setIfInBounds_toArray, List.set_cons_zero, List.set_cons_succ]
        refine wpU_take (i := 4) (oi := ?oi20) (v := ?v20) ?hi20 (by kernel_rfl) (by kernel_rfl) (by kernel_rfl) ?hy20 ?rest20
        case hi20 => (simp only [List.getElem?_toArray, List.getElem?_cons_succ, List.getElem?_cons_zero]; rfl)
        case hy20 => (refine Or.inl ⟨by rfl, ?_⟩; intro W hSw; (obtain ⟨z1, z2⟩ := HFC.out _ hSw.1; clear hSw); go_simp; (try with_reducible rfl))
        try simp only [Act.put, List.setIfInBounds_toArray, List.set_cons_zero, List.set_cons_succ]
        refine wpU_take (i := 5) (oi := ?oi21) (v := ?v21) ?hi21 (by kernel_rfl) (by kernel_rfl) (by kernel_rfl) ?hy21 ?rest21
        case hi21 => (simp only [List.getElem?_toArray, List.getElem?_cons_succ, List.getElem?_cons_zero]; rfl)
        case hy21 => (refine Or.inl ⟨by rfl, ?_⟩; intro W hSw; (obtain ⟨z1, z2⟩ := HFC.out _ hSw.1; clear hSw); go_simp; (try with_reducible rfl))
        try simp only [Act.put, List.setIfInBounds_toArray, List.set_cons_zero, List.set_cons_succ]
        refine wpU_take (i := 6) (oi := ?oi22) (v := ?v22) ?hi22 (by kernel_rfl) (by kernel_rfl) (by kernel_rfl) ?hy22 ?rest22
        case hi22 => (simp only [List.getElem?_toArray, List.getElem?_cons_succ, List.getElem?_cons_zero]; rfl)
        case hy22 => (refine Or.inl ⟨by rfl, ?_⟩; intro W hSw; (obtain ⟨z1, z2⟩ := HFC.out _ hSw.1; clear hSw); go_simp; (try with_reducible rfl))
        try simp only [Act.put, List.setIfInBounds_toArray, List.set_cons_zero, List.set_cons_succ]
        refine wpU_take (i := 7) (oi := ?oi23) (v := ?v23) ?hi23 (by kernel_rfl) (by kernel_rfl) (by kernel_rfl) ?hy23 ?rest23
        case hi23 => (simp only [List.getElem?_toArray, List.getElem?_cons_succ, List.getElem?_cons_zero]; rfl)
        case hy23 => (refine Or.inl ⟨by rfl, ?_⟩; intro W hSw; (obtain ⟨z1, z2⟩ := HFC.out _ hSw.1; clear hSw); go_simp; (try with_reducible rfl))
        try simp only [Act.put, List.setIfInBounds_toArray, List.set_cons_zero, List.set_cons_succ]
        refine wpU_take (i := 8) (oi := ?oi24) (v := ?v24) ?hi24 (by kernel_rfl) (by kernel_rfl) (by kernel_rfl) ?hy24 ?rest24
        case hi24 => (simp only [List.getElem?_toArray, List.getElem?_cons_succ, List.getElem?_cons_zero]; rfl)
        case hy24 => (refine Or.inl ⟨by rfl, ?_⟩; intro W hSw; (obtain ⟨z1, z2⟩ := HFC.out _ hSw.1; clear hSw); go_simp; (try with_reducible rfl))
        try simp only [Act.put, List.setIfInBounds_toArray, List.set_cons_zero, List.set_cons_succ]
        refine wpU_take (i := 9) (oi := ?oi25) (v := ?v25) ?hi25 (by kernel_rfl) (by kernel_rfl) (by kernel_rfl) ?hy25 ?rest25
        case hi25 => (simp only [List.getElem?_toArray, List.getElem?_cons_succ, List.getElem?_cons_zero]; rfl)
        case hy25 => (refine Or.inl ⟨by rfl, ?_⟩; intro W hSw; (obtain ⟨z1, z2⟩ := HFC.out _ hSw.1; clear hSw); go_simp; (try with_reducible rfl))
        try simp only [Act.put, List.setIfInBounds_toArray, List.set_cons_zero, List.set_cons_succ]
        refine wpU_take (i := 10) (oi := ?oi26) (v := ?v26) ?hi26 (by kernel_rfl) (by kernel_rfl) (by kernel_rfl) ?hy26 ?rest26
        case hi26 => (simp only [List.getElem?_toArray, List.getElem?_cons_succ, List.getElem?_cons_zero]; rfl)
        case hy26 => (refine Or.inl ⟨by rfl, ?_⟩; intro W hSw; (obtain ⟨z1, z2⟩ := HFC.out _ hSw.1; clear hSw); go_simp; (try with_reducible rfl))
        try simp only [Act.put, List.setIfInBounds_toArray, List.set_cons_zero, List.set_cons_succ]
        refine wpU_take (i := 11) (oi := ?oi27) (v := ?v27) ?hi27 (by kernel_rfl) (by kernel_rfl) (by kernel_rfl) ?hy27 ?rest27
        case hi27 => (simp only [List.getElem?_toArray, List.getElem?_cons_succ, List.getElem?_cons_zero]; rfl)
        case hy27 => (refine Or.inl ⟨by rfl, ?_⟩; intro W hSw; (obtain ⟨z1, z2⟩ := HFC.out _ hSw.1; clear hSw); go_simp; (try with_reducible rfl))
        try simp only [Act.put, List.setIfInBounds_toArray, List.set_cons_zero, List.set_cons_succ]
        refine wpU_take (i := 12) (oi := ?oi28) (v := .bool true) ?hi28 (by kernel_rfl) (by kernel_rfl) (by kernel_rfl) ?hy28 ?rest28
        case hi28 => (simp only [List.getElem?_toArray, List.getElem?_cons_succ, List.getElem?_cons_zero]; rfl)
        case hy28 =>
          refine Or.inr (Or.inr (Or.inl ⟨by rfl, 19, #[.slice ra f.b.length rc, .slice sa f.b.length sc], fun W hSw => (by go_simp), fun W hSw => ?_⟩))
          refine (same_any f.b f.b _ _ W hSw.2.1 hSw.2.2 (by have := HF.out.2.2.1; omega)).mono ?_
          rintro e w' ⟨rfl, hb'⟩
          refine ⟨by rw [decide_eq_true rfl], hSw.1.trans (hb'.mono hSw.1.size), hSw.2.1.below hb', hSw.2.2.below hb'⟩
        try simp only [Act.put, List.setIfInBounds_toArray, List.set_cons_zero, List.set_cons_succ]
        refine wpU_take (i := 13) (oi := ?oi29) (v := ?v29) ?hi29 (by kernel_rfl) (by kernel_rfl) (by kernel_rfl) ?hy29 ?rest29
        case hi29 => (simp only [List.getElem?_toArray, List.getElem?_cons_succ, List.getElem?_cons_zero]; rfl)
        case hy29 => (refine Or.inl ⟨by rfl, ?_⟩; intro W hSw; (obtain ⟨z1, z2⟩ := HFC.out _ hSw.1; clear hSw); go_simp; (try with_reducible rfl))
        try simp only [Act.put, List.setIfInBounds_toArray, List.set_cons_zero, List.set_cons_succ]
        refine wpU_take (i := 14) (oi := ?oi30) (v := ?v30) ?hi30 (by kernel_rfl) (by kernel_rfl) (by kernel_rfl) ?hy30 ?rest30
        case hi30 => (simp only [List.getElem?_toArray, List.getElem?_cons_succ, List.getElem?_cons_zero]; rfl)
        case hy30 => (refine Or.inl ⟨by rfl, ?_⟩; intro W hSw; (obtain ⟨z1, z2⟩ := HFC.out _ hSw.1; clear hSw); go_simp; (try with_reducible rfl))
        try simp only [Act.put, List.setIfInBounds_toArray, List.set_cons_zero, List.set_cons_succ]
        refine wpU_done (by kernel_rfl) ?_ _
        intro wc hSw
        have HC1 := Lib.hid hSw.1
        clear hSw
        go_wp2_with fail
        go_roundw
        case rel => exact ⟨j + 1, by omega, by go_num, HZ.out.1.below HC1.out, HZ.out.2.1.below HC1.out, HZ.out.2.2.1.below HC1.out, HZ.out.2.2.2.trans (HC1.out.mono HZ.out.2.2.2.size)⟩
        case measure => simp [intOf]; omega
    case pos =>
    obtain ⟨s, hs⟩ : ∃ s, l[k]? = some s := ⟨_, List.getElem?_eq_getElem hkn⟩
    have hH := H.out.below HST.out.2.2
    obtain ⟨b1, o1, c1, e1, hb1, hc1⟩ := hH.cel (by omega)
    cases e1
    have hstp := hH.stp k s hs
    obtain ⟨ba, bc, hbv⟩ := hstp.rb.slice
    obtain ⟨ka, kc, hkv⟩ := hstp.rk.slice
    have y0 := hc1 k s hs 0 _ rfl
    have y1 := hc1 k s hs 1 _ rfl
    have y2 := hc1 k s hs 2 _ rfl
    have y3 := hc1 k s hs 3 _ rfl
    have y4 := hc1 k s hs 4 _ rfl
    simp only [Nat.add_zero] at y0
    rw [hbv] at y2 hstp
    rw [hkv] at y4 hstp
    have hbA : Below wr.heap.size wr (wr.alloc (.cells #[.int .i64 s.kd, .string ⟨s.nm.toArray⟩, .slice ba s.b.length bc, .int .i64 s.n, .slice ka s.ks.length kc] 36)) := (Below.refl _ _).alloc (Nat.le_refl _) _
    have hbk := Blk.new wr 36 [.int .i64 s.kd, .string ⟨s.nm.toArray⟩, .slice ba s.b.length bc, .int .i64 s.n, .slice ka s.ks.length kc]
    have HBX := Lib.hid (And.intro hbA (And.intro hbk hstp))
    have d0 := hbk.cell 0 rfl
    have d1 := hbk.cell 1 rfl
    have d2 := hbk.cell 2 rfl
    have d3 := hbk.cell 3 rfl
    have d4 := hbk.cell 4 rfl
    clear hc1 hH hs hbv hkv hstp hbA hbk
    have HSAME : Hid (∃ (k' N' : Nat) (sp sq : St) (sl sl2 : By → Value), k' = k + 1 ∧ N' = N ∧ Arms sp sq N ∧ Duet w.heap.size (wr.alloc (.cells #[.int .i64 s.kd, .string ⟨s.nm.toArray⟩, .slice ba s.b.length bc, .int .i64 s.n, .slice ka s.ks.length kc] 36)) q m q2 m2 sp sq sl sl2 ∧ Below w.heap.size w (wr.alloc (.cells #[.int .i64 s.kd, .string ⟨s.nm.toArray⟩, .slice ba s.b.length bc, .int .i64 s.n, .slice ka s.ks.length kc] 36))) :=
      Lib.hid ⟨_, _, sp, sq, sl, sl2, rfl, rfl, HST.out.1, HST.out.2.1.below HBX.out.1, HST.out.2.2.trans (HBX.out.1.mono HST.out.2.2.size)⟩
    by_cases z1 : s.kd < 0
    case pos =>
      go_wp2_with fail
      obtain ⟨k', N', sp', sq', sl', sl2', rfl, rfl, h1, h2, h3⟩ := HSAME.out
      go_roundw
      case rel => exact ⟨k + 1, _, sp', sq', sl', sl2', by omega, by go_num, rfl, hN, h1, h2, h3⟩
      case measure => simp [intOf]; omega
    case neg =>
    by_cases z2 : 2 < s.kd
    case pos =>
      go_wp2_with fail
      obtain ⟨k', N', sp', sq', sl', sl2', rfl, rfl, h1, h2, h3⟩ := HSAME.out
      go_roundw
      case rel => exact ⟨k + 1, _, sp', sq', sl', sl2', by omega, by go_num, rfl, hN, h1, h2, h3⟩
      case measure => simp [intOf]; omega
    case neg =>
    by_cases z3 : (s.nm.length : Int) < 1
    case pos =>
      go_wp2_with fail
      obtain ⟨k', N', sp', sq', sl', sl2', rfl, rfl, h1, h2, h3⟩ := HSAME.out
      go_roundw
      case rel => exact ⟨k + 1, _, sp', sq', sl', sl2', by omega, by go_num, rfl, hN, h1, h2, h3⟩
      case measure => simp [intOf]; omega
    case neg =>
    by_cases z4 : (64 : Int) < (s.nm.length : Int)
    case pos =>
      go_wp2_with fail
      obtain ⟨k', N', sp', sq', sl', sl2', rfl, rfl, h1, h2, h3⟩ := HSAME.out
      go_roundw
      case rel => exact ⟨k + 1, _, sp', sq', sl', sl2', by omega, by go_num, rfl, hN, h1, h2, h3⟩
      case measure => simp [intOf]; omega
    case neg =>
    have HG : Hid (Good s) := Lib.hid ⟨by omega, by omega, by omega, by omega⟩
    go_wp2_with fail
    generalize hWA : wr.alloc (.cells #[.int .i64 s.kd, .string ⟨s.nm.toArray⟩, .slice ba s.b.length bc, .int .i64 s.n, .slice ka s.ks.length kc] 36) = WA at *
    have hszA : WA.heap.size = wr.heap.size + 1 := by rw [← hWA]; simp
    have hx0 := ref_new WA 100000 sl (fun k => w.heap.size ≤ k ∧ ¬ foot q m sp.fs sl k) ⟨by have := HST.out.2.2.size; omega, fun hf => by have := HST.out.2.1.pp.foot_lt hf; omega⟩ (by decide)
    have hbX : Below WA.heap.size WA (WA.alloc (.cells #[.slice none 0 0, .int .i64 100000, .bool false, .int .i64 0, .bool false] 31)) := (Below.refl _ _).alloc (Nat.le_refl _) _
    have hszX : (WA.alloc (.cells #[.slice none 0 0, .int .i64 100000, .bool false, .int .i64 0, .bool false] 31)).heap.size = wr.heap.size + 1 + 1 := by simp [hszA]
    have hy0 := ref_new (WA.alloc (.cells #[.slice none 0 0, .int .i64 100000, .bool false, .int .i64 0, .bool false] 31)) 100000 sl (fun k => k = wr.heap.size + 1 + 1) hszX (by decide)
    have hbY : Below (WA.alloc (.cells #[.slice none 0 0, .int .i64 100000, .bool false, .int .i64 0, .bool false] 31)).heap.size (WA.alloc (.cells #[.slice none 0 0, .int .i64 100000, .bool false, .int .i64 0, .bool false] 31)) ((WA.alloc (.cells #[.slice none 0 0, .int .i64 100000, .bool false, .int .i64 0, .bool false] 31)).alloc (.cells #[.slice none 0 0, .int .i64 100000, .bool false, .int .i64 0, .bool false] 31)) := (Below.refl _ _).alloc (Nat.le_refl _) _
    replace hx0 := RA.below hx0 hbY
    have hWX : Below WA.heap.size WA ((WA.alloc (.cells #[.slice none 0 0, .int .i64 100000, .bool false, .int .i64 0, .bool false] 31)).alloc (.cells #[.slice none 0 0, .int .i64 100000, .bool false, .int .i64 0, .bool false] 31)) := hbX.trans (hbY.mono hbX.size)
    have hszY : ((WA.alloc (.cells #[.slice none 0 0, .int .i64 100000, .bool false, .int .i64 0, .bool false] 31)).alloc (.cells #[.slice none 0 0, .int .i64 100000, .bool false, .int .i64 0, .bool false] 31)).heap.size = wr.heap.size + 1 + 1 + 1 := by rw [World.size_alloc, hszX]
    rw [hszX] at hy0
    rw [hszA] at hx0
    clear hbX hbY hszX hWA
    generalize (WA.alloc (.cells #[.slice none 0 0, .int .i64 100000, .bool false, .int .i64 0, .bool false] 31)).alloc (.cells #[.slice none 0 0, .int .i64 100000, .bool false, .int .i64 0, .bool false] 31) = WX at *
    have hbwX : Below wr.heap.size wr WX := HBX.out.1.trans (hWX.mono HBX.out.1.size)
    have hDX := HST.out.2.1.below hbwX
    have hbX2 : Below w.heap.size w WX := HST.out.2.2.trans (hbwX.mono HST.out.2.2.size)
    have hsX : StepAt w.heap.size WX s (.slice ba s.b.length bc) (.slice ka s.ks.length kc) := HBX.out.2.2.below (hbwX.mono HST.out.2.2.size)
    have hbkX := HBX.out.2.1.below hWX HBX.out.2.1.lt
    have HDO := Lib.hid (duet_do (r := wr.heap.size + 1) hDX hx0 (fun hf => by have := HST.out.2.1.pq.foot_lt hf; omega) (fun k => k = wr.heap.size ∨ k = wr.heap.size + 1 + 1) (fun k hk => ⟨by rcases hk with rfl | rfl <;> omega, by rcases hk with rfl | rfl <;> omega, fun hf => by have := HST.out.2.1.pp.foot_lt hf; omega⟩) hsX)
    have HWX := Lib.hid (And.intro hbX2 (And.intro hsX (And.intro hbkX (And.intro hy0 hszY))))
    have HBW := Lib.hid hb1
    clear hx0 hy0 hWX hszY hszA hbwX hDX hbX2 hsX hbkX hb1 d0 d1 d2 d3 d4 y0 y1 y2 y3 y4
    refine HDO.out.mono ?_
    rintro e W4 ⟨⟨bb, rfl, _⟩, ⟨sl', hD4, hX4⟩, hb4, hk4⟩
    have hbk4 : Blk W4 wr.heap.size 36 [.int .i64 s.kd, .string ⟨s.nm.toArray⟩, .slice ba s.b.length bc, .int .i64 s.n, .slice ka s.ks.length kc] := (hk4 _ (.inl rfl)).trans HWX.out.2.2.1
    have hy4 : RA W4 (wr.heap.size + 1 + 1) (newS 100000) sl (.slice none 0 0) 0 (fun k => w.heap.size ≤ k ∧ ¬ foot q2 m2 sq.fs sl2 k) := HWX.out.2.2.2.1.keep (fun k _ hk => by rw [hk]; exact hk4 _ (.inr rfl)) hb4.size (fun k _ hk => by
      rw [hk]
      exact ⟨by have := HST.out.2.2.size; omega, fun hf => by have := HST.out.2.1.pq.foot_lt hf; omega⟩)
    have H4 := Lib.hid (And.intro hD4 (And.intro (HWX.out.1.trans hb4) (And.intro (HWX.out.2.1.below hb4) (And.intro hy4 (hX4 _ (.inr rfl))))))
    have d0 := hbk4.cell 0 rfl
    have d1 := hbk4.cell 1 rfl
    have d2 := hbk4.cell 2 rfl
    have d3 := hbk4.cell 3 rfl
    have d4 := hbk4.cell 4 rfl
    clear hD4 hX4 hb4 hk4 hbk4 hy4 HDO
    rcases N with _ | N'
    · have hA2 := arms_out HST.out.1 HG.out
      have HA2 := Lib.hid hA2
      have HDN := Lib.hid (down_any q m (stp sp s) sl' W4 H4.out.1.pp)
      rw [HA2.out.2] at HDN
      clear hA2
      go_wp2_with fail
      refine HDN.out.mono ?_
      rintro e W5 ⟨rfl, hw⟩
      obtain rfl := hw.symm
      clear d0 d1 d2 d3 d4 HDN
      go_wp2_with fail
      go_roundw
      case rel => exact ⟨k + 1, 0, stp sp s, sq, sl', sl2, by omega, by go_num, rfl, by omega, HA2.out.1, H4.out.1, H4.out.2.1⟩
      case measure => simp [intOf]; omega
    · have hA2 := arms_step HST.out.1 HG.out
      have HA2 := Lib.hid hA2
      have t7 : (0 : Int) < ((N' + 1 : Nat) : Int) := by omega
      have t8 : wrap64 (((N' + 1 : Nat) : Int) - 1) = (N' : Int) := by rw [IntWalk.wrap64_in _ (by omega)]; omega
      have t9 : IntKind.i64.wrap (((N' + 1 : Nat) : Int) - 1) = (N' : Int) := by rw [IntWalk.i64_in _ (by omega)]; omega
      obtain ⟨N2, hN2⟩ : ∃ N2 : Int, N2 = ((N' + 1 : Nat) : Int) := ⟨_, rfl⟩
      rw [← hN2] at t7 t8 t9 ⊢
      have HN2 := Lib.hid hN2
      have HDO := Lib.hid (duet_do (r := wr.heap.size + 1 + 1) H4.out.1.swap H4.out.2.2.2.1 H4.out.2.2.2.2 (fun _ => False) (fun k hk => hk.elim) H4.out.2.2.1)
      clear hA2 hN2
      go_wp2_with fail
      refine HDO.out.mono ?_
      rintro e W5 ⟨⟨bb2, rfl, _⟩, ⟨sl2', hD5, _⟩, hb5, _⟩
      have H5 := Lib.hid (And.intro hD5.swap (H4.out.2.1.trans hb5))
      have HDN := Lib.hid (down_any q m (stp sp s) sl' W5 H5.out.1.pp)
      rw [HA2.out.2] at HDN
      clear hD5 hb5 HDO d0 d1 d2 d3 d4
      go_wp2_with fail
      refine HDN.out.mono ?_
      rintro e W6 ⟨rfl, hw⟩
      obtain rfl := hw.symm
      clear HDN
      go_wp2_with fail
      go_roundw
      case rel => exact ⟨k + 1, N', stp sp s, stp sq s, sl', sl2', by omega, by go_num, rfl, by have := HN2.out; omega, HA2.out.1, H5.out⟩
      case measure => simp [intOf]; omega
end Go.Proofs.Ytclaahailnpdoaa.Pt
