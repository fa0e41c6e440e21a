/-
  Chapter 10: PlateFull's walk. Printed by gen_plate_full.py.
-/
import Derived.Test.YtclaahailnpdoaaBv
import Derived.Test.YtclaahailnpdoaaBw
namespace Go.Proofs.Ytclaahailnpdoaa.Pt
open Go.RowKit Go.Maps
set_option linter.unusedVariables false
set_option linter.unusedSimpArgs false

theorem cut_room (st : St) (x : By) (n : Int) : (cut st x n).2.room = st.room := by
  unfold cut
  repeat' split
  all_goals exact (chg_fs st x).2
theorem stp_room (st : St) (s : Sp) : (stp st s).room = st.room := by
  unfold stp
  split
  · unfold app; repeat' split
    all_goals exact (chg_fs st s.nm).2
  · split
    · unfold syn; split
      all_goals exact (chg_fs st s.nm).2
    · split
      · exact cut_room st s.nm s.n
      · split
        · unfold arm; split <;> rfl
        · split <;> rfl
theorem wrap_sum (a b : Nat) (h : a + b ≤ 268435456) : wrap64 ((a : Int) + (b : Int)) = ((a + b : Nat) : Int) ∧ IntKind.i64.wrap ((a : Int) + (b : Int)) = ((a + b : Nat) : Int) := by
  constructor
  · rw [IntWalk.wrap64_in _ (by omega)]; omega
  · rw [IntWalk.i64_in _ (by omega)]; omega
theorem wrap_sum2 (a b : Nat) (h : a ≤ 268435456) (h2 : b ≤ 140737488355000) : wrap64 ((a : Int) + (b : Int)) = ((a + b : Nat) : Int) ∧ IntKind.i64.wrap ((a : Int) + (b : Int)) = ((a + b : Nat) : Int) := by
  constructor
  · rw [IntWalk.wrap64_in _ (by omega)]; omega
  · rw [IntWalk.i64_in _ (by omega)]; omega
theorem app_room (st : St) (x b : By) : (app st x b).2.room = st.room := by
  unfold app; repeat' split
  all_goals exact (chg_fs st x).2
/-- what Append's answer tells -/
theorem app_told (st : St) (x b : By) (hf : Fit st) : ((app st x b).1 = 0 → tot (app st x b).2.fs = tot st.fs + b.length) ∧ ((app st x b).1 ≠ 0 → (app st x b).2.fs = st.fs) ∧ ((app st x b).1 = 8 → st.room < tot st.fs + b.length) := by
  have hc8 : (chg st x).1 ≠ 8 := by
    unfold chg askedC
    repeat' split
    all_goals simp
  unfold app
  by_cases h0 : (chg st x).1 = 0
  · rw [if_pos h0]
    by_cases h1 : st.room - tot st.fs < b.length
    · rw [if_pos h1]
      exact ⟨fun h => absurd h (by simp), fun _ => (chg_fs st x).1, fun _ => by have := hf.tot; omega⟩
    · rw [if_neg h1]
      refine ⟨fun _ => ?_, fun h => absurd rfl h, fun h => absurd h (by simp)⟩
      have := tot_lay ⟨x, gB st.fs x ++ b, gS st.fs x⟩ st.fs hf.asc
      simp only [List.length_append] at this
      show tot (lay ⟨x, gB st.fs x ++ b, gS st.fs x⟩ st.fs) = _
      omega
  · rw [if_neg h0]
    exact ⟨fun h => absurd h h0, fun _ => (chg_fs st x).1, fun h => absurd h hc8⟩
theorem gB_tot {fs : List Fl} (x : By) : (gB fs x).length ≤ tot fs := by
  unfold gB
  cases h : get fs x with
  | none => exact Nat.zero_le _
  | some f => 
    obtain ⟨hm, _⟩ := get_name h
    obtain ⟨k, hk⟩ := List.getElem?_of_mem hm
    have h1 := tot_take_succ hk
    have h2 := tot_take_le fs (k + 1)
    show f.b.length ≤ tot fs
    omega
theorem arm_fs (st : St) (n : Int) : (arm st n).fs = st.fs ∧ (arm st n).down = st.down ∧ (arm st n).room = st.room := by
  unfold arm; split <;> exact ⟨rfl, rfl, rfl⟩
set_option maxRecDepth 100000 in
set_option maxHeartbeats 4000000 in
theorem _root_.Go.Proofs.Ytclaahailnpdoaa.plateFull_walk (n : Int) (v : Value) (l : List Sp) (vb vk : Nat → Value) (w : World) (h : SpsAt w.heap.size w v l vb vk) (hl : l.length ≤ 4611686018427387904) :
    Calls Try.prog 6 #[.int .i64 n, v] w fun e w' => e = .returned (.bool true) ∧ Below w.heap.size w w' := by
  obtain ⟨a, c, rfl⟩ := h.shp
  have H := Lib.hid h
  clear h
  go_enter Try.func6, Try.ntmps6
  go_wp2_with fail
  obtain ⟨N, hN, hN400⟩ := mod120 n 400 (by decide) (by decide)
  rw [hN]
  clear hN
  refine (new_any N (fun _ => .slice none 0 0) w (by omega)).mono ?_
  rintro e w1 ⟨q, m, rfl, hp1, hb1, hq, hm⟩
  have hP1 : PO w.heap.size w w1 q m (newS N) := ⟨hb1, hb1.size, _, hp1, fun k hk => by
    rcases hk with rfl | rfl | ⟨f, hf, _⟩
    · exact hq
    · exact hm
    · cases hf⟩
  clear hp1 hb1 hq hm
  go_wp2_with fail
  obtain ⟨st0, hst0⟩ : ∃ st0 : St, st0 = newS N := ⟨_, rfl⟩
  have hr0 : st0.room = N := by rw [hst0]; rfl
  rw [← hst0] at hP1
  clear hst0
  go_loopw [7] (fun i wr => ∃ (k : Nat) (st : St), k ≤ l.length ∧ i = .int .i64 (k : Int) ∧ PO w.heap.size w wr q m st ∧ st.room = N) (fun i _ => l.length - (intOf i).toNat)
  case atStart => exact ⟨0, st0, Nat.zero_le _, rfl, hP1, hr0⟩
  case round =>
    clear hP1 hr0
    obtain ⟨k, st, hk, rfl, hP, hr⟩ := hrel
    by_cases hkn : k < l.length
    case neg =>
      have t1 : ¬ (k : Int) < (l.length : Int) := by omega
      obtain ⟨hbw, hbs, _⟩ := hP
      have HBW := Lib.hid hbw
      clear hbw
      go_wp2_with fail
      refine (known_any _).mono ?_
      rintro e w9 ⟨rfl, hb9⟩
      have HX := Lib.hid (HBW.out.trans (hb9.mono hbs))
      clear hb9
      go_wp2_with fail
      go_ret
      exact ⟨rfl, HX.out⟩
    case pos =>
    have t1 : (k : Int) < (l.length : Int) := by omega
    by_cases hk1 : (k : Int) < 120
    case neg =>
      obtain ⟨hbw, hbs, _⟩ := hP
      have HBW := Lib.hid hbw
      clear hbw
      go_wp2_with fail
      refine (known_any _).mono ?_
      rintro e w9 ⟨rfl, hb9⟩
      have HX := Lib.hid (HBW.out.trans (hb9.mono hbs))
      clear hb9
      go_wp2_with fail
      go_ret
      exact ⟨rfl, HX.out⟩
    case pos =>
    obtain ⟨hbw, hbs, sl, hpa, hfb⟩ := hP
    obtain ⟨s, hs⟩ : ∃ s, l[k]? = some s := ⟨_, List.getElem?_eq_getElem hkn⟩
    have hH := H.out.below hbw
    obtain ⟨b1, o1, c1, e1, hb1, hc1⟩ := hH.cel (by omega)
    cases e1
    have hstp := hH.stp k s hs
    obtain ⟨ba, bc, hbv⟩ := hstp.rb.slice
    obtain ⟨ka, kc, hkv⟩ := hstp.rk.slice
    have y0 := hc1 k s hs 0 _ rfl
    have y1 := hc1 k s hs 1 _ rfl
    have y2 := hc1 k s hs 2 _ rfl
    have y3 := hc1 k s hs 3 _ rfl
    have y4 := hc1 k s hs 4 _ rfl
    simp only [Nat.add_zero] at y0
    rw [hbv] at y2 hstp
    rw [hkv] at y4 hstp
    have hbA : Below wr.heap.size wr (wr.alloc (.cells #[.int .i64 s.kd, .string ⟨s.nm.toArray⟩, .slice ba s.b.length bc, .int .i64 s.n, .slice ka s.ks.length kc] 36)) := (Below.refl _ _).alloc (Nat.le_refl _) _
    have hbk := Blk.new wr 36 [.int .i64 s.kd, .string ⟨s.nm.toArray⟩, .slice ba s.b.length bc, .int .i64 s.n, .slice ka s.ks.length kc]
    have HBX := Lib.hid (And.intro hbk (hstp.below (hbA.mono hbw.size)))
    have HPA := Lib.hid (And.intro (hpa.below hbA) (And.intro hfb (hbw.trans (hbA.mono hbw.size))))
    have hszA : (wr.alloc (.cells #[.int .i64 s.kd, .string ⟨s.nm.toArray⟩, .slice ba s.b.length bc, .int .i64 s.n, .slice ka s.ks.length kc] 36)).heap.size = wr.heap.size + 1 := by simp
    have HSZ := Lib.hid (And.intro hszA hpa.blk.lt)
    have hflt : ∀ k, foot q m st.fs sl k → k < wr.heap.size := fun k hk => hpa.foot_lt hk
    have HFLT := Lib.hid hflt
    clear hc1 hH hs hbv hkv hstp hbA hbk hpa hfb hbw hbs hszA hflt
    generalize hWA : (wr.alloc (.cells #[.int .i64 s.kd, .string ⟨s.nm.toArray⟩, .slice ba s.b.length bc, .int .i64 s.n, .slice ka s.ks.length kc] 36)) = WA at *
    have HCOPY := copy_any q m st sl WA HPA.out.1
    go_wp2_with fail
    clear hWA
    refine HCOPY.mono ?_
    rintro e W2 ⟨q2, m2, sl2, rfl, hp2, hb2, hf2⟩
    have hD2 : Duet w.heap.size W2 q m q2 m2 st st sl sl2 := ⟨HPA.out.1.below hb2, hp2, fun k hk hf => by have h1 := HPA.out.1.foot_lt hk; have h2 := hf2 k hf; omega, HPA.out.2.1, fun k hk => by have h1 := hf2 k hk; have h2 := HPA.out.2.2.size; omega, by have h1 := HPA.out.2.2.size; have h2 := hb2.size; omega⟩
    have hbk2 := HBX.out.1.below hb2 HBX.out.1.lt
    have H2 := Lib.hid (And.intro hD2 (And.intro (HPA.out.2.2.trans (hb2.mono HPA.out.2.2.size)) (And.intro (HBX.out.2.below (hb2.mono HPA.out.2.2.size)) (And.intro hbk2 (fun k hk => hf2 k hk)))))
    obtain ⟨TT, hTT⟩ : ∃ TT, TT = tot st.fs := ⟨_, rfl⟩
    have HTT := Lib.hid hTT
    have HUSED := used_any q m st sl W2 hD2.pp
    rw [← hTT] at HUSED
    have d0 := hbk2.cell 0 rfl
    have d1 := hbk2.cell 1 rfl
    have d2 := hbk2.cell 2 rfl
    have d3 := hbk2.cell 3 rfl
    have d4 := hbk2.cell 4 rfl
    clear HCOPY hp2 hb2 hf2 hD2 hbk2 hTT y0 y1 y2 y3 y4
    go_wp2_with fail
    refine HUSED.mono ?_
    rintro e W3 ⟨rfl, hw⟩
    obtain rfl := hw.symm
    clear HUSED
    by_cases k0 : s.kd = 0
    case neg =>
      have t2 : ¬ s.kd = 0 := k0
      have t3 : (s.kd == 0) = false := by rw [beq_eq_false_iff_ne]; exact k0
      clear k0
      have hbX : Below W2.heap.size W2 (W2.alloc (.cells #[.slice none 0 0, .int .i64 0, .bool false, .int .i64 0, .bool false] 31)) := (Below.refl _ _).alloc (Nat.le_refl _) _
      have hbkX := H2.out.2.2.2.1.below hbX H2.out.2.2.2.1.lt
      have e0 := hbkX.cell 0 rfl
      have e1 := hbkX.cell 1 rfl
      have e2 := hbkX.cell 2 rfl
      have e3 := hbkX.cell 3 rfl
      have e4 := hbkX.cell 4 rfl
      have hx0 := ref_new W2 0 sl (fun k => w.heap.size ≤ k ∧ ¬ foot q m st.fs sl k) ⟨by have := H2.out.2.1.size; omega, fun hf => by have := H2.out.1.pp.foot_lt hf; omega⟩ (by decide)
      have HDO := Lib.hid (duet_do (r := W2.heap.size) (H2.out.1.below hbX) hx0 (fun hf => by have := H2.out.1.pq.foot_lt hf; omega) (fun _ => False) (fun k hk => hk.elim) (H2.out.2.2.1.below (hbX.mono H2.out.2.1.size)))
      have HBX2 := Lib.hid (H2.out.2.1.trans (hbX.mono H2.out.2.1.size))
      clear hbX hbkX hx0
      go_wp2_with fail
      refine HDO.out.mono ?_
      rintro e W4 ⟨⟨bb, rfl, _⟩, ⟨sl1, hD4, _⟩, hb4, _⟩
      have HD := Lib.hid hD4
      have HB := Lib.hid (HBX2.out.trans hb4)
      have HRM : Hid ((stp st s).room = N) := Lib.hid ((stp_room st s).trans hr)
      obtain ⟨st1, hst1⟩ : ∃ st1, st1 = stp st s := ⟨_, rfl⟩
      rw [← hst1] at HD HRM
      have HEF : Hid ((0 : Int) ≠ 0 → st1.fs = st.fs) := Lib.hid (fun h => absurd rfl h)
      obtain ⟨ev, hev⟩ : ∃ ev : Int, ev = 0 := ⟨_, rfl⟩
      clear hD4 hb4 hst1 d0 d1 d2 d3 d4 e0 e1 e2 e3 e4 HDO HBX2
      go_wp2_with fail
      refine (names_any q m st1 sl1 W4 HD.out.pp).mono ?_
      rintro e W5 ⟨nv, rfl, hn5, hb5⟩
      obtain ⟨na, nc, hne⟩ := hn5.rd.slice
      subst hne
      have hr5 := hn5.rd
      obtain ⟨NM, hNM⟩ : ∃ NM, NM = st1.fs.length := ⟨_, rfl⟩
      have HNN : Hid ((names st1.fs).length = NM) := Lib.hid (by rw [hNM]; unfold names; rw [List.length_map])
      rw [HNN.out] at hr5 ⊢
      have HO5 : Hid (∀ g, Value.ownBlock (.slice na NM nc) = some g → W4.heap.size ≤ g ∧ g < W5.heap.size) := Lib.hid (fun g hg => by
        have h1 := World.ownsRow.lt hn5 g (by rw [HNN.out]; exact hg)
        exact h1)
      have H5 := Lib.hid (And.intro (HD.out.below hb5) (And.intro hr5 (HB.out.trans (hb5.mono HB.out.size))))
      have HARM := arm_any q m st1 sl1 (-1) W5 H5.out.1.pp (by decide)
      have HNM0 := Lib.hid hNM
      clear hn5 hb5 hr5 hNM
      go_wp2_with fail
      refine HARM.mono ?_
      rintro e W6 ⟨rfl, hp6, ho6⟩
      have hc6 := H5.out.1.call hp6 (ho6.mono (fun k _ hk => .inl hk)) (fun k hk => .inl (by rw [(arm_fs st1 (-1)).1] at hk; exact hk))
      have hr6 := rd_keep H5.out.2.1 (fun g hg => ho6.block g (HO5.out g hg).2 (fun e => by have h1 := (HO5.out g hg).1; have h2 := HD.out.pp.blk.lt; omega))
      have HAF : Hid ((arm st1 (-1)).fs = st1.fs ∧ (arm st1 (-1)).room = N) := Lib.hid ⟨(arm_fs st1 (-1)).1, (arm_fs st1 (-1)).2.2.trans HRM.out⟩
      have hNM := HNM0.out
      rw [← HAF.out.1] at hr6 hNM
      obtain ⟨st2, hst2⟩ : ∃ st2, st2 = arm st1 (-1) := ⟨_, rfl⟩
      rw [← hst2] at HAF hc6 hr6 hNM
      have hd6 := hc6.1
      have hb6 := H5.out.2.2.trans hc6.2
      have HNM := Lib.hid hNM
      have hLM : NM ≤ 268435456 := by
        have h1 := len_tot st2.fs (fun f hf => (hd6.pp.fit.file f hf).1)
        have h2 := hd6.pp.fit.tot
        have h3 := hd6.pp.fit.room
        rw [hNM]; omega
      clear hp6 ho6 hc6 HARM HO5 H5 HB HD hst2 hNM HNM0 HNN
      go_wp2_with fail
      go_loopw [12, 14] (fun nn i wr' => ∃ (j T : Nat), j ≤ NM ∧ i = .int .i64 (j : Int) ∧ nn = .int .i64 (T : Int) ∧ T = (if st2.down = true then 0 else tot (st2.fs.take j)) ∧ Duet w.heap.size wr' q m q2 m2 st2 st sl1 sl2 ∧ Rd wr' 1 (.slice na NM nc) NM ((names st2.fs).map sv) ∧ Below w.heap.size w wr') (fun _ i _ => NM - (intOf i).toNat)
      case atStart => exact ⟨0, 0, Nat.zero_le _, rfl, rfl, by split <;> rfl, hd6, hr6, hb6⟩
      case round =>
        clear hd6 hr6 hb6
        obtain ⟨j, T, hj, rfl, rfl, hT, hdz, hrx, hbz⟩ := hrel
        by_cases hjn : j < NM
        case neg =>
          have hj' : ¬ (j : Int) < (NM : Int) := by omega
          obtain rfl : j = NM := by omega
          rw [HNM.out, List.take_length] at hT
          have hTl : ((tot st2.fs : Nat) : Int) ≤ (N : Int) := by
            have h1 := hdz.pp.fit.tot
            have h2 := HAF.out.2
            omega
          have HZ := Lib.hid (And.intro hdz hbz)
          have HDN := down_any q m st2 sl1 wr hdz.pp
          have HUS := used_any q m st2 sl1 wr hdz.pp
          clear hdz hrx hbz
          cases hD : st2.down with
          | true =>
            rw [hD] at HDN
            obtain ⟨U, hU⟩ : ∃ U, U = tot st2.fs := ⟨_, rfl⟩
            rw [← hU] at hTl HUS
            have t5 : ¬ (N : Int) < (U : Int) := by omega
            clear hT hD hU
            go_wp2_with fail
            refine HDN.mono ?_
            rintro e W7 ⟨rfl, hw7⟩
            obtain rfl := hw7.symm
            go_wp2_with fail
            refine HUS.mono ?_
            rintro e W8 ⟨rfl, hw8⟩
            obtain rfl := hw8.symm
            clear HUS HDN
            go_wp2_with fail
            go_roundw
            case rel => exact ⟨k + 1, st2, by omega, by go_num, ⟨HZ.out.2, HZ.out.1.bs, sl1, HZ.out.1.pp, HZ.out.1.bp⟩, HAF.out.2⟩
            case measure => simp [intOf]; omega
          | false =>
            rw [hD] at HDN hT
            rw [if_neg (by simp)] at hT
            rw [← hT] at hTl HUS
            have t5 : ¬ (N : Int) < (T : Int) := by omega
            clear hT hD
            go_wp2_with fail
            refine HDN.mono ?_
            rintro e W7 ⟨rfl, hw7⟩
            obtain rfl := hw7.symm
            go_wp2_with fail
            refine HUS.mono ?_
            rintro e W8 ⟨rfl, hw8⟩
            obtain rfl := hw8.symm
            go_wp2_with fail
            refine HUS.mono ?_
            rintro e W9 ⟨rfl, hw9⟩
            obtain rfl := hw9.symm
            clear HUS HDN
            go_wp2_with fail
            go_roundw
            case rel => exact ⟨k + 1, st2, by omega, by go_num, ⟨HZ.out.2, HZ.out.1.bs, sl1, HZ.out.1.pp, HZ.out.1.bp⟩, HAF.out.2⟩
            case measure => simp [intOf]; omega
        case pos =>
          have t5 : (j : Int) < (NM : Int) := by omega
          obtain ⟨f, hf⟩ : ∃ f, st2.fs[j]? = some f := ⟨_, List.getElem?_eq_getElem (by have := HNM.out; omega)⟩
          have hfm := List.mem_of_getElem? hf
          have hff := hdz.pp.fit.file f hfm
          have hgm := get_mem hdz.pp.fit.asc hfm
          have hgb : gB st2.fs f.n = f.b := by unfold gB; rw [hgm]; rfl
          have htk := tot_take_succ hf
          have hfl : tot (st2.fs.take (j + 1)) ≤ 268435456 := by
            have h2 := tot_take_le st2.fs (j + 1)
            have h3 := hdz.pp.fit.tot
            have h4 := hdz.pp.fit.room
            omega
          have hak : ∀ d, askedC d f.n = if d then 9 else 0 := fun d => by unfold askedC; rw [if_neg (by omega)]
          have hnm : ((names st2.fs).map sv)[j]? = some (.string ⟨f.n.toArray⟩) := by unfold names; rw [List.getElem?_map, List.getElem?_map, hf]; rfl
          have HR1 := read_any q m st2 sl1 f.n wr hdz.pp (by omega)
          rw [hgb, hak] at HR1
          obtain ⟨X2, hX2⟩ : ∃ X2, X2 = gB st.fs f.n := ⟨_, rfl⟩
          have HR2 : Hid (∀ W, Duet w.heap.size W q m q2 m2 st2 st sl1 sl2 → Calls Try.prog 18 #[.pointer (some ⟨q2, 0, none⟩), .string ⟨f.n.toArray⟩] W fun e w' => ∃ v', e = .returned (.tuple #[v', .int .i64 ((if st.down = true then 9 else 0 : Nat) : Int)]) ∧ OwnB w' W.heap.size v' (if (if st.down = true then 9 else 0 : Nat) = 0 then X2 else []) ∧ Below W.heap.size W w') := Lib.hid (fun W hW => by
            have h := read_any q2 m2 st sl2 f.n W hW.pq (by omega)
            rw [← hX2, hak] at h
            exact h)
          have HE : Hid ((0 : Int) ≠ 0 → X2 = f.b) := Lib.hid (fun h => by rw [hX2, ← HEF.out h, ← HAF.out.1]; exact hgb)
          have HX2 : Hid (X2.length ≤ 268435456) := Lib.hid (by
            rw [hX2]
            have h1 := gB_tot (fs := st.fs) f.n
            have h2 := hdz.pq.fit.tot
            have h3 := hdz.pq.fit.room
            omega)
          obtain ⟨ba5, oa5, ca5, e1, hca, hc1⟩ := hrx.pos (by omega)
          cases e1
          have z1 := hc1 j _ hnm
          have HZ := Lib.hid (And.intro hdz (And.intro hrx hbz))
          have HFC : Hid (∀ W, Below wr.heap.size wr W → W.cell? ⟨ba5, oa5 + j, none⟩ = some (.string ⟨f.n.toArray⟩)) := Lib.hid (fun W hW => by
            obtain ⟨ba', oa', ca', e1, _, hc1⟩ := (HZ.out.2.1.below hW).pos (by omega)
            cases e1
            exact hc1 j _ hnm)
          have HT := Lib.hid (And.intro hT (And.intro htk hfl))
          have hTs : T + f.b.length ≤ 268435456 := by
            rw [hT]; split <;> omega
          obtain ⟨FL, hFL⟩ : ∃ FL, FL = f.b.length := ⟨_, rfl⟩
          obtain ⟨D1, hD1⟩ : ∃ D1, D1 = st2.down := ⟨_, rfl⟩
          obtain ⟨D2, hD2⟩ : ∃ D2, D2 = st.down := ⟨_, rfl⟩
          rw [← hD1] at HR1 HT
          rw [← hD2] at HR2
          have HTS := Lib.hid hTs
          have HFL := Lib.hid hFL
          have HDD := Lib.hid hD1
          clear hdz hrx hbz hf hfm hff hgm hgb htk hfl hak hnm hc1 hca hT hX2 hTs hFL
          clear hD1 hD2
          cases D1 with
          | true =>
            rw [if_pos rfl, if_neg (by decide)] at HR1
            have hT0 := HT.out.1
            rw [if_pos rfl] at hT0
            subst hT0
            go_wp2_with fail
            refine HR1.mono ?_
            rintro e wa ⟨vx, rfl, hox, hba⟩
            obtain ⟨ra, rc, hre⟩ := hox.rd.slice
            subst hre
            have HA1 := Lib.hid (And.intro hba hox.rd)
            have z1' := HFC.out wa hba
            rw [List.length_nil]
            clear hba hox z1 HR1
            go_wp2_with fail
            refine (HR2.out wa (HZ.out.1.below HA1.out.1)).mono ?_
            rintro e wb ⟨vy, rfl, hoy, hbb⟩
            have HB1 := Lib.hid (HA1.out.1.trans (hbb.mono HA1.out.1.size))
            obtain ⟨c2, hc2⟩ : ∃ c2 : Int, c2 = ((if D2 = true then 9 else 0 : Nat) : Int) := ⟨_, rfl⟩
            rw [← hc2]
            obtain ⟨sa, sc, hse⟩ := hoy.rd.slice
            subst hse
            clear hbb hoy z1' hc2
            go_wp2_with fail
            go_roundw
            case rel => exact ⟨j + 1, 0, by omega, by go_num, rfl, by rw [if_pos HDD.out.symm], HZ.out.1.below HB1.out, HZ.out.2.1.below HB1.out, HZ.out.2.2.trans (HB1.out.mono HZ.out.2.2.size)⟩
            case measure => simp [intOf]; omega
          | false =>
            rw [if_neg (by decide), if_pos rfl] at HR1
            have hT0 := HT.out.1
            rw [if_neg (by decide)] at hT0
            have HT0 := Lib.hid hT0
            have hTs := HTS.out
            rw [← HFL.out] at hTs
            obtain ⟨t6, t7⟩ := wrap_sum T FL hTs
            clear hT0 hTs
            go_wp2_with fail
            refine HR1.mono ?_
            rintro e wa ⟨vx, rfl, hox, hba⟩
            obtain ⟨ra, rc, hre⟩ := hox.rd.slice
            subst hre
            have HA1 := Lib.hid (And.intro hba hox.rd)
            have z1' := HFC.out wa hba
            rw [← HFL.out]
            clear hba hox z1 HR1
            go_wp2_with fail
            refine (HR2.out wa (HZ.out.1.below HA1.out.1)).mono ?_
            rintro e wb ⟨vy, rfl, hoy, hbb⟩
            have HB1 := Lib.hid (HA1.out.1.trans (hbb.mono HA1.out.1.size))
            obtain ⟨c2, hc2⟩ : ∃ c2 : Int, c2 = ((if D2 = true then 9 else 0 : Nat) : Int) := ⟨_, rfl⟩
            rw [← hc2]
            obtain ⟨sa, sc, hse⟩ := hoy.rd.slice
            subst hse
            clear hbb hoy z1' hc2
            go_wp2_with fail
            go_roundw
            case rel => exact ⟨j + 1, T + FL, by omega, by go_num, rfl, by rw [if_neg (by rw [← HDD.out]; decide), HT.out.2.1, ← HT0.out, HFL.out], HZ.out.1.below HB1.out, HZ.out.2.1.below HB1.out, HZ.out.2.2.trans (HB1.out.mono HZ.out.2.2.size)⟩
            case measure => simp [intOf]; omega
    case pos =>
      have k1 : (s.kd == 0) = true := by rw [beq_iff_eq]; exact k0
      have HAPP := Lib.hid (append_any q m st sl s.nm s.b (.slice ba s.b.length bc) W2 H2.out.1.pp H2.out.2.2.1.ln H2.out.2.2.1.rb H2.out.2.2.1.lb (fun h0 g hg => ⟨by have h1 := H2.out.2.2.1.nb h0 g hg; have h2 := H2.out.2.1.size; omega, by have h1 := H2.out.2.2.1.nb h0 g hg; have h2 := H2.out.1.bp q (.inl rfl); omega⟩))
      have k2 : s.kd = 0 := k0
      obtain ⟨BL, hBL⟩ : ∃ BL, BL = s.b.length := ⟨_, rfl⟩
      have hBL2 : BL ≤ 140737488355000 := by rw [hBL]; exact H2.out.2.2.1.lb
      have hTT2 : TT ≤ 268435456 := by have h1 := H2.out.1.pp.fit.tot; have h2 := H2.out.1.pp.fit.room; have h3 := HTT.out; omega
      have HBL := Lib.hid hBL
      have HBL2 := Lib.hid hBL2
      have HAT := Lib.hid (app_told st s.nm s.b H2.out.1.pp.fit)
      rw [← HTT.out, ← hBL, hr] at HAT
      obtain ⟨t6, t7⟩ := wrap_sum2 TT BL hTT2 hBL2
      obtain ⟨cv, hcv⟩ : ∃ cv, cv = (app st s.nm s.b).1 := ⟨_, rfl⟩
      rw [← hcv] at HAPP HAT
      clear k0 hcv hBL2 hTT2
      rw [← hBL] at d2 HAPP
      clear hBL
      go_wp2_with fail
      refine HAPP.out.mono ?_
      rintro e W4 ⟨rfl, sl1, hp4, ho4, hn4⟩
      have hc4 := H2.out.1.call hp4 ho4 hn4
      have hd4 := hc4.1
      have hbk4 := (ho4.block wr.heap.size H2.out.2.2.2.1.lt (fun hf => absurd (HFLT.out _ hf) (Nat.lt_irrefl _))).trans H2.out.2.2.2.1
      have HB := Lib.hid (H2.out.2.1.trans hc4.2)
      have HRM : Hid ((app st s.nm s.b).2.room = N) := Lib.hid ((app_room st s.nm s.b).trans hr)
      obtain ⟨st1, hst1⟩ : ∃ st1, st1 = (app st s.nm s.b).2 := ⟨_, rfl⟩
      rw [← hst1] at hd4 HRM HAT
      have HD := Lib.hid hd4
      have f2 := (show Blk W4 wr.heap.size 36 _ from hbk4).cell 2 rfl
      rw [← HBL.out] at f2
      have HLT4 : Hid (wr.heap.size < W4.heap.size) := Lib.hid (Blk.lt (show Blk W4 wr.heap.size 36 _ from hbk4))
      have HUS := Lib.hid True.intro
      clear hp4 ho4 hn4 hc4 hd4 hbk4 hst1 HAPP d0 d1 d2 d3 d4
      by_cases hc0 : cv = 0
      case pos =>
        subst hc0
        have HUS : Hid (∀ W, PA W q m st1 sl1 → Calls Try.prog 16 #[.pointer (some ⟨q, 0, none⟩)] W fun e w' => e = .returned (.int .i64 ((TT + BL : Nat) : Int)) ∧ w' = W) := Lib.hid (fun W hW => by rw [← HAT.out.1 rfl]; exact used_any q m st1 sl1 W hW)
        have HEF : Hid ((0 : Int) ≠ 0 → st1.fs = st.fs) := Lib.hid (fun h => absurd rfl h)
        obtain ⟨ev, hev⟩ : ∃ ev : Int, ev = 0 := ⟨_, rfl⟩
        have f2d : W4.drew.cell? ⟨wr.heap.size, 2, none⟩ = some (.slice ba BL bc) := (World.cell?_of_block (a := ⟨wr.heap.size, 2, none⟩) ((Below.refl W4.heap.size W4).drew.block wr.heap.size HLT4.out)).trans f2
        have HDd := Lib.hid (HD.out.below (Below.refl _ _).drew)
        have HBd := Lib.hid (HB.out.trans ((Below.refl W4.heap.size W4).drew.mono HB.out.size))
        go_wp2_with fail
        refine wp_region_U (S := (fun W => W = W4.drew)) (by kernel_rfl) ?_ ?_
        · rfl
        refine wpU_take (i := 0) (oi := ?oi1) (v := ?v1) ?hi1 (by kernel_rfl) (by kernel_rfl) (by kernel_rfl) ?hy1 ?rest1
        case hi1 => (simp only [List.getElem?_toArray, List.getElem?_cons_succ, List.getElem?_cons_zero]; rfl)
        case hy1 => (refine Or.inl ⟨by rfl, ?_⟩; intro W hSw; (obtain rfl : W = W4.drew := hSw); go_simp; (try with_reducible rfl))
        try simp only [Act.put, List.setIfInBounds_toArray, List.set_cons_zero, List.set_cons_succ]
        refine wpU_take (i := 1) (oi := ?oi2) (v := ?v2) ?hi2 (by kernel_rfl) (by kernel_rfl) (by kernel_rfl) ?hy2 ?rest2
        case hi2 => (simp only [List.getElem?_toArray, List.getElem?_cons_succ, List.getElem?_cons_zero]; rfl)
        case hy2 => (refine Or.inl ⟨by rfl, ?_⟩; intro W hSw; (obtain rfl : W = W4.drew := hSw); go_simp; (try with_reducible rfl))
        try simp only [Act.put, List.setIfInBounds_toArray, List.set_cons_zero, List.set_cons_succ]
        refine wpU_take (i := 2) (oi := ?oi3) (v := ?v3) ?hi3 (by kernel_rfl) (by kernel_rfl) (by kernel_rfl) ?hy3 ?rest3
        case hi3 => (simp only [List.getElem?_toArray, List.getElem?_cons_succ, List.getElem?_cons_zero]; rfl)
        case hy3 => (refine Or.inl ⟨by rfl, ?_⟩; intro W hSw; (obtain rfl : W = W4.drew := hSw); go_simp; (try with_reducible rfl))
        try simp only [Act.put, List.setIfInBounds_toArray, List.set_cons_zero, List.set_cons_succ]
        refine wpU_take (i := 3) (oi := ?oi4) (v := ?v4) ?hi4 (by kernel_rfl) (by kernel_rfl) (by kernel_rfl) ?hy4 ?rest4
        case hi4 => (simp only [List.getElem?_toArray, List.getElem?_cons_succ, List.getElem?_cons_zero]; rfl)
        case hy4 => (refine Or.inl ⟨by rfl, ?_⟩; intro W hSw; (obtain rfl : W = W4.drew := hSw); go_simp; (try with_reducible rfl))
        try simp only [Act.put, List.setIfInBounds_toArray, List.set_cons_zero, List.set_cons_succ]
        refine wpU_take (i := 4) (oi := ?oi5) (v := .int .i64 ((TT + BL : Nat) : Int)) ?hi5 (by kernel_rfl) (by kernel_rfl) (by kernel_rfl) ?hy5 ?rest5
        case hi5 => (simp only [List.getElem?_toArray, List.getElem?_cons_succ, List.getElem?_cons_zero]; rfl)
        case hy5 =>
          refine Or.inr (Or.inr (Or.inl ⟨by rfl, 16, #[.pointer (some ⟨q, 0, none⟩)], fun W hSw => (by go_simp), fun W hSw => ?_⟩))
          obtain rfl : W = W4.drew := hSw
          refine (HUS.out W4.drew HDd.out.pp).mono ?_
          rintro e w' ⟨rfl, hw⟩
          exact ⟨rfl, hw⟩
        try simp only [Act.put, List.setIfInBounds_toArray, List.set_cons_zero, List.set_cons_succ]
        refine wpU_take (i := 5) (oi := ?oi6) (v := ?v6) ?hi6 (by kernel_rfl) (by kernel_rfl) (by kernel_rfl) ?hy6 ?rest6
        case hi6 => (simp only [List.getElem?_toArray, List.getElem?_cons_succ, List.getElem?_cons_zero]; rfl)
        case hy6 => (refine Or.inl ⟨by rfl, ?_⟩; intro W hSw; (obtain rfl : W = W4.drew := hSw); go_simp; (try with_reducible rfl))
        try simp only [Act.put, List.setIfInBounds_toArray, List.set_cons_zero, List.set_cons_succ]
        refine wpU_take (i := 6) (oi := ?oi7) (v := ?v7) ?hi7 (by kernel_rfl) (by kernel_rfl) (by kernel_rfl) ?hy7 ?rest7
        case hi7 => (simp only [List.getElem?_toArray, List.getElem?_cons_succ, List.getElem?_cons_zero]; rfl)
        case hy7 => (refine Or.inl ⟨by rfl, ?_⟩; intro W hSw; (obtain rfl : W = W4.drew := hSw); go_simp; (try with_reducible rfl))
        try simp only [Act.put, List.setIfInBounds_toArray, List.set_cons_zero, List.set_cons_succ]
        refine wpU_take (i := 7) (oi := ?oi8) (v := ?v8) ?hi8 (by kernel_rfl) (by kernel_rfl) (by kernel_rfl) ?hy8 ?rest8
        case hi8 => (simp only [List.getElem?_toArray, List.getElem?_cons_succ, List.getElem?_cons_zero]; rfl)
        case hy8 => (refine Or.inl ⟨by rfl, ?_⟩; intro W hSw; (obtain rfl : W = W4.drew := hSw); go_simp; (try with_reducible rfl))
        try simp only [Act.put, List.setIfInBounds_toArray, List.set_cons_zero, List.set_cons_succ]
        refine wpU_take (i := 8) (oi := ?oi9) (v := ?v9) ?hi9 (by kernel_rfl) (by kernel_rfl) (by kernel_rfl) ?hy9 ?rest9
        case hi9 => (simp only [List.getElem?_toArray, List.getElem?_cons_succ, List.getElem?_cons_zero]; rfl)
        case hy9 => (refine Or.inl ⟨by rfl, ?_⟩; intro W hSw; (obtain rfl : W = W4.drew := hSw); go_simp; (try with_reducible rfl))
        try simp only [Act.put, List.setIfInBounds_toArray, List.set_cons_zero, List.set_cons_succ]
        refine wpU_take (i := 9) (oi := ?oi10) (v := ?v10) ?hi10 (by kernel_rfl) (by kernel_rfl) (by kernel_rfl) ?hy10 ?rest10
        case hi10 => (simp only [List.getElem?_toArray, List.getElem?_cons_succ, List.getElem?_cons_zero]; rfl)
        case hy10 => (refine Or.inl ⟨by rfl, ?_⟩; intro W hSw; (obtain rfl : W = W4.drew := hSw); go_simp; (try with_reducible rfl))
        try simp only [Act.put, List.setIfInBounds_toArray, List.set_cons_zero, List.set_cons_succ]
        refine wpU_take (i := 10) (oi := ?oi11) (v := ?v11) ?hi11 (by kernel_rfl) (by kernel_rfl) (by kernel_rfl) ?hy11 ?rest11
        case hi11 => (simp only [List.getElem?_toArray, List.getElem?_cons_succ, List.getElem?_cons_zero]; rfl)
        case hy11 => (refine Or.inl ⟨by rfl, ?_⟩; intro W hSw; (obtain rfl : W = W4.drew := hSw); go_simp; (try with_reducible rfl))
        try simp only [Act.put, List.setIfInBounds_toArray, List.set_cons_zero, List.set_cons_succ]
        refine wpU_take (i := 11) (oi := ?oi12) (v := ?v12) ?hi12 (by kernel_rfl) (by kernel_rfl) (by kernel_rfl) ?hy12 ?rest12
        case hi12 => (simp only [List.getElem?_toArray, List.getElem?_cons_succ, List.getElem?_cons_zero]; rfl)
        case hy12 => (refine Or.inl ⟨by rfl, ?_⟩; intro W hSw; (obtain rfl : W = W4.drew := hSw); go_simp; (try with_reducible rfl))
        try simp only [Act.put, List.setIfInBounds_toArray, List.set_cons_zero, List.set_cons_succ]
        refine wpU_take (i := 12) (oi := ?oi13) (v := ?v13) ?hi13 (by kernel_rfl) (by kernel_rfl) (by kernel_rfl) ?hy13 ?rest13
        case hi13 => (simp only [List.getElem?_toArray, List.getElem?_cons_succ, List.getElem?_cons_zero]; rfl)
        case hy13 => (refine Or.inl ⟨by rfl, ?_⟩; intro W hSw; (obtain rfl : W = W4.drew := hSw); go_simp; (try with_reducible rfl))
        try simp only [Act.put, List.setIfInBounds_toArray, List.set_cons_zero, List.set_cons_succ]
        refine wpU_take (i := 13) (oi := ?oi14) (v := ?v14) ?hi14 (by kernel_rfl) (by kernel_rfl) (by kernel_rfl) ?hy14 ?rest14
        case hi14 => (simp only [List.getElem?_toArray, List.getElem?_cons_succ, List.getElem?_cons_zero]; rfl)
        case hy14 => (refine Or.inl ⟨by rfl, ?_⟩; intro W hSw; (obtain rfl : W = W4.drew := hSw); go_simp; (try with_reducible rfl))
        try simp only [Act.put, List.setIfInBounds_toArray, List.set_cons_zero, List.set_cons_succ]
        refine wpU_take (i := 14) (oi := ?oi15) (v := ?v15) ?hi15 (by kernel_rfl) (by kernel_rfl) (by kernel_rfl) ?hy15 ?rest15
        case hi15 => (simp only [List.getElem?_toArray, List.getElem?_cons_succ, List.getElem?_cons_zero]; rfl)
        case hy15 => (refine Or.inl ⟨by rfl, ?_⟩; intro W hSw; (obtain rfl : W = W4.drew := hSw); go_simp; (try with_reducible rfl))
        try simp only [Act.put, List.setIfInBounds_toArray, List.set_cons_zero, List.set_cons_succ]
        refine wpU_take (i := 15) (oi := ?oi16) (v := ?v16) ?hi16 (by kernel_rfl) (by kernel_rfl) (by kernel_rfl) ?hy16 ?rest16
        case hi16 => (simp only [List.getElem?_toArray, List.getElem?_cons_succ, List.getElem?_cons_zero]; rfl)
        case hy16 => (refine Or.inl ⟨by rfl, ?_⟩; intro W hSw; (obtain rfl : W = W4.drew := hSw); go_simp; (try with_reducible rfl))
        try simp only [Act.put, List.setIfInBounds_toArray, List.set_cons_zero, List.set_cons_succ]
        refine wpU_take (i := 16) (oi := ?oi17) (v := undef) ?hi17 (by kernel_rfl) (by kernel_rfl) (by kernel_rfl) ?hy17 ?rest17
        case hi17 => (simp only [List.getElem?_toArray, List.getElem?_cons_succ, List.getElem?_cons_zero]; rfl)
        case hy17 => exact Or.inr (Or.inl ⟨by rfl, rfl⟩)
        try simp only [Act.put, List.setIfInBounds_toArray, List.set_cons_zero, List.set_cons_succ]
        refine wpU_take (i := 17) (oi := ?oi18) (v := undef) ?hi18 (by kernel_rfl) (by kernel_rfl) (by kernel_rfl) ?hy18 ?rest18
        case hi18 => (simp only [List.getElem?_toArray, List.getElem?_cons_succ, List.getElem?_cons_zero]; rfl)
        case hy18 => exact Or.inr (Or.inl ⟨by rfl, rfl⟩)
        try simp only [Act.put, List.setIfInBounds_toArray, List.set_cons_zero, List.set_cons_succ]
        refine wpU_take (i := 18) (oi := ?oi19) (v := undef) ?hi19 (by kernel_rfl) (by kernel_rfl) (by kernel_rfl) ?hy19 ?rest19
        case hi19 => (simp only [List.getElem?_toArray, List.getElem?_cons_succ, List.getElem?_cons_zero]; rfl)
        case hy19 => exact Or.inr (Or.inl ⟨by rfl, rfl⟩)
        try simp only [Act.put, List.setIfInBounds_toArray, List.set_cons_zero, List.set_cons_succ]
        refine wpU_take (i := 19) (oi := ?oi20) (v := undef) ?hi20 (by kernel_rfl) (by kernel_rfl) (by kernel_rfl) ?hy20 ?rest20
        case hi20 => (simp only [List.getElem?_toArray, List.getElem?_cons_succ, List.getElem?_cons_zero]; rfl)
        case hy20 => exact Or.inr (Or.inl ⟨by rfl, rfl⟩)
        try simp only [Act.put, List.setIfInBounds_toArray, List.set_cons_zero, List.set_cons_succ]
        refine wpU_take (i := 20) (oi := ?oi21) (v := undef) ?hi21 (by kernel_rfl) (by kernel_rfl) (by kernel_rfl) ?hy21 ?rest21
        case hi21 => (simp only [List.getElem?_toArray, List.getElem?_cons_succ, List.getElem?_cons_zero]; rfl)
        case hy21 => exact Or.inr (Or.inl ⟨by rfl, rfl⟩)
        try simp only [Act.put, List.setIfInBounds_toArray, List.set_cons_zero, List.set_cons_succ]
        refine wpU_take (i := 21) (oi := ?oi22) (v := undef) ?hi22 (by kernel_rfl) (by kernel_rfl) (by kernel_rfl) ?hy22 ?rest22
        case hi22 => (simp only [List.getElem?_toArray, List.getElem?_cons_succ, List.getElem?_cons_zero]; rfl)
        case hy22 => exact Or.inr (Or.inl ⟨by rfl, rfl⟩)
        try simp only [Act.put, List.setIfInBounds_toArray, List.set_cons_zero, List.set_cons_succ]
        refine wpU_take (i := 22) (oi := ?oi23) (v := undef) ?hi23 (by kernel_rfl) (by kernel_rfl) (by kernel_rfl) ?hy23 ?rest23
        case hi23 => (simp only [List.getElem?_toArray, List.getElem?_cons_succ, List.getElem?_cons_zero]; rfl)
        case hy23 => exact Or.inr (Or.inl ⟨by rfl, rfl⟩)
        try simp only [Act.put, List.setIfInBounds_toArray, List.set_cons_zero, List.set_cons_succ]
        refine wpU_take (i := 23) (oi := ?oi24) (v := ?v24) ?hi24 (by kernel_rfl) (by kernel_rfl) (by kernel_rfl) ?hy24 ?rest24
        case hi24 => (simp only [List.getElem?_toArray, List.getElem?_cons_succ, List.getElem?_cons_zero]; rfl)
        case hy24 => (refine Or.inl ⟨by rfl, ?_⟩; intro W hSw; (obtain rfl : W = W4.drew := hSw); go_simp; (try with_reducible rfl))
        try simp only [Act.put, List.setIfInBounds_toArray, List.set_cons_zero, List.set_cons_succ]
        refine wpU_take (i := 24) (oi := ?oi25) (v := ?v25) ?hi25 (by kernel_rfl) (by kernel_rfl) (by kernel_rfl) ?hy25 ?rest25
        case hi25 => (simp only [List.getElem?_toArray, List.getElem?_cons_succ, List.getElem?_cons_zero]; rfl)
        case hy25 => (refine Or.inl ⟨by rfl, ?_⟩; intro W hSw; (obtain rfl : W = W4.drew := hSw); go_simp; (try with_reducible rfl))
        try simp only [Act.put, List.setIfInBounds_toArray, List.set_cons_zero, List.set_cons_succ]
        refine wpU_done (by kernel_rfl) ?_ _
        intro W hSw
        obtain rfl : W = W4.drew := hSw
        clear f2 f2d t6 t7 HUS HD HB HLT4
        have HD := HDd
        have HB := HBd
        clear HDd HBd
        generalize W4.drew = W4 at *
        go_wp2_with fail
        refine (names_any q m st1 sl1 W4 HD.out.pp).mono ?_
        rintro e W5 ⟨nv, rfl, hn5, hb5⟩
        obtain ⟨na, nc, hne⟩ := hn5.rd.slice
        subst hne
        have hr5 := hn5.rd
        obtain ⟨NM, hNM⟩ : ∃ NM, NM = st1.fs.length := ⟨_, rfl⟩
        have HNN : Hid ((names st1.fs).length = NM) := Lib.hid (by rw [hNM]; unfold names; rw [List.length_map])
        rw [HNN.out] at hr5 ⊢
        have HO5 : Hid (∀ g, Value.ownBlock (.slice na NM nc) = some g → W4.heap.size ≤ g ∧ g < W5.heap.size) := Lib.hid (fun g hg => by
          have h1 := World.ownsRow.lt hn5 g (by rw [HNN.out]; exact hg)
          exact h1)
        have H5 := Lib.hid (And.intro (HD.out.below hb5) (And.intro hr5 (HB.out.trans (hb5.mono HB.out.size))))
        have HARM := arm_any q m st1 sl1 (-1) W5 H5.out.1.pp (by decide)
        have HNM0 := Lib.hid hNM
        clear hn5 hb5 hr5 hNM
        go_wp2_with fail
        refine HARM.mono ?_
        rintro e W6 ⟨rfl, hp6, ho6⟩
        have hc6 := H5.out.1.call hp6 (ho6.mono (fun k _ hk => .inl hk)) (fun k hk => .inl (by rw [(arm_fs st1 (-1)).1] at hk; exact hk))
        have hr6 := rd_keep H5.out.2.1 (fun g hg => ho6.block g (HO5.out g hg).2 (fun e => by have h1 := (HO5.out g hg).1; have h2 := HD.out.pp.blk.lt; omega))
        have HAF : Hid ((arm st1 (-1)).fs = st1.fs ∧ (arm st1 (-1)).room = N) := Lib.hid ⟨(arm_fs st1 (-1)).1, (arm_fs st1 (-1)).2.2.trans HRM.out⟩
        have hNM := HNM0.out
        rw [← HAF.out.1] at hr6 hNM
        obtain ⟨st2, hst2⟩ : ∃ st2, st2 = arm st1 (-1) := ⟨_, rfl⟩
        rw [← hst2] at HAF hc6 hr6 hNM
        have hd6 := hc6.1
        have hb6 := H5.out.2.2.trans hc6.2
        have HNM := Lib.hid hNM
        have hLM : NM ≤ 268435456 := by
          have h1 := len_tot st2.fs (fun f hf => (hd6.pp.fit.file f hf).1)
          have h2 := hd6.pp.fit.tot
          have h3 := hd6.pp.fit.room
          rw [hNM]; omega
        clear hp6 ho6 hc6 HARM HO5 H5 HB HD hst2 hNM HNM0 HNN
        go_wp2_with fail
        go_loopw [12, 14] (fun nn i wr' => ∃ (j T : Nat), j ≤ NM ∧ i = .int .i64 (j : Int) ∧ nn = .int .i64 (T : Int) ∧ T = (if st2.down = true then 0 else tot (st2.fs.take j)) ∧ Duet w.heap.size wr' q m q2 m2 st2 st sl1 sl2 ∧ Rd wr' 1 (.slice na NM nc) NM ((names st2.fs).map sv) ∧ Below w.heap.size w wr') (fun _ i _ => NM - (intOf i).toNat)
        case atStart => exact ⟨0, 0, Nat.zero_le _, rfl, rfl, by split <;> rfl, hd6, hr6, hb6⟩
        case round =>
          clear hd6 hr6 hb6
          obtain ⟨j, T, hj, rfl, rfl, hT, hdz, hrx, hbz⟩ := hrel
          by_cases hjn : j < NM
          case neg =>
            have hj' : ¬ (j : Int) < (NM : Int) := by omega
            obtain rfl : j = NM := by omega
            rw [HNM.out, List.take_length] at hT
            have hTl : ((tot st2.fs : Nat) : Int) ≤ (N : Int) := by
              have h1 := hdz.pp.fit.tot
              have h2 := HAF.out.2
              omega
            have HZ := Lib.hid (And.intro hdz hbz)
            have HDN := down_any q m st2 sl1 wr hdz.pp
            have HUS := used_any q m st2 sl1 wr hdz.pp
            clear hdz hrx hbz
            cases hD : st2.down with
            | true =>
              rw [hD] at HDN
              obtain ⟨U, hU⟩ : ∃ U, U = tot st2.fs := ⟨_, rfl⟩
              rw [← hU] at hTl HUS
              have t5 : ¬ (N : Int) < (U : Int) := by omega
              clear hT hD hU
              go_wp2_with fail
              refine HDN.mono ?_
              rintro e W7 ⟨rfl, hw7⟩
              obtain rfl := hw7.symm
              go_wp2_with fail
              refine HUS.mono ?_
              rintro e W8 ⟨rfl, hw8⟩
              obtain rfl := hw8.symm
              clear HUS HDN
              go_wp2_with fail
              go_roundw
              case rel => exact ⟨k + 1, st2, by omega, by go_num, ⟨HZ.out.2, HZ.out.1.bs, sl1, HZ.out.1.pp, HZ.out.1.bp⟩, HAF.out.2⟩
              case measure => simp [intOf]; omega
            | false =>
              rw [hD] at HDN hT
              rw [if_neg (by simp)] at hT
              rw [← hT] at hTl HUS
              have t5 : ¬ (N : Int) < (T : Int) := by omega
              clear hT hD
              go_wp2_with fail
              refine HDN.mono ?_
              rintro e W7 ⟨rfl, hw7⟩
              obtain rfl := hw7.symm
              go_wp2_with fail
              refine HUS.mono ?_
              rintro e W8 ⟨rfl, hw8⟩
              obtain rfl := hw8.symm
              go_wp2_with fail
              refine HUS.mono ?_
              rintro e W9 ⟨rfl, hw9⟩
              obtain rfl := hw9.symm
              clear HUS HDN
              go_wp2_with fail
              go_roundw
              case rel => exact ⟨k + 1, st2, by omega, by go_num, ⟨HZ.out.2, HZ.out.1.bs, sl1, HZ.out.1.pp, HZ.out.1.bp⟩, HAF.out.2⟩
              case measure => simp [intOf]; omega
          case pos =>
            have t5 : (j : Int) < (NM : Int) := by omega
            obtain ⟨f, hf⟩ : ∃ f, st2.fs[j]? = some f := ⟨_, List.getElem?_eq_getElem (by have := HNM.out; omega)⟩
            have hfm := List.mem_of_getElem? hf
            have hff := hdz.pp.fit.file f hfm
            have hgm := get_mem hdz.pp.fit.asc hfm
            have hgb : gB st2.fs f.n = f.b := by unfold gB; rw [hgm]; rfl
            have htk := tot_take_succ hf
            have hfl : tot (st2.fs.take (j + 1)) ≤ 268435456 := by
              have h2 := tot_take_le st2.fs (j + 1)
              have h3 := hdz.pp.fit.tot
              have h4 := hdz.pp.fit.room
              omega
            have hak : ∀ d, askedC d f.n = if d then 9 else 0 := fun d => by unfold askedC; rw [if_neg (by omega)]
            have hnm : ((names st2.fs).map sv)[j]? = some (.string ⟨f.n.toArray⟩) := by unfold names; rw [List.getElem?_map, List.getElem?_map, hf]; rfl
            have HR1 := read_any q m st2 sl1 f.n wr hdz.pp (by omega)
            rw [hgb, hak] at HR1
            obtain ⟨X2, hX2⟩ : ∃ X2, X2 = gB st.fs f.n := ⟨_, rfl⟩
            have HR2 : Hid (∀ W, Duet w.heap.size W q m q2 m2 st2 st sl1 sl2 → Calls Try.prog 18 #[.pointer (some ⟨q2, 0, none⟩), .string ⟨f.n.toArray⟩] W fun e w' => ∃ v', e = .returned (.tuple #[v', .int .i64 ((if st.down = true then 9 else 0 : Nat) : Int)]) ∧ OwnB w' W.heap.size v' (if (if st.down = true then 9 else 0 : Nat) = 0 then X2 else []) ∧ Below W.heap.size W w') := Lib.hid (fun W hW => by
              have h := read_any q2 m2 st sl2 f.n W hW.pq (by omega)
              rw [← hX2, hak] at h
              exact h)
            have HE : Hid ((0 : Int) ≠ 0 → X2 = f.b) := Lib.hid (fun h => by rw [hX2, ← HEF.out h, ← HAF.out.1]; exact hgb)
            have HX2 : Hid (X2.length ≤ 268435456) := Lib.hid (by
              rw [hX2]
              have h1 := gB_tot (fs := st.fs) f.n
              have h2 := hdz.pq.fit.tot
              have h3 := hdz.pq.fit.room
              omega)
            obtain ⟨ba5, oa5, ca5, e1, hca, hc1⟩ := hrx.pos (by omega)
            cases e1
            have z1 := hc1 j _ hnm
            have HZ := Lib.hid (And.intro hdz (And.intro hrx hbz))
            have HFC : Hid (∀ W, Below wr.heap.size wr W → W.cell? ⟨ba5, oa5 + j, none⟩ = some (.string ⟨f.n.toArray⟩)) := Lib.hid (fun W hW => by
              obtain ⟨ba', oa', ca', e1, _, hc1⟩ := (HZ.out.2.1.below hW).pos (by omega)
              cases e1
              exact hc1 j _ hnm)
            have HT := Lib.hid (And.intro hT (And.intro htk hfl))
            have hTs : T + f.b.length ≤ 268435456 := by
              rw [hT]; split <;> omega
            obtain ⟨FL, hFL⟩ : ∃ FL, FL = f.b.length := ⟨_, rfl⟩
            obtain ⟨D1, hD1⟩ : ∃ D1, D1 = st2.down := ⟨_, rfl⟩
            obtain ⟨D2, hD2⟩ : ∃ D2, D2 = st.down := ⟨_, rfl⟩
            rw [← hD1] at HR1 HT
            rw [← hD2] at HR2
            have HTS := Lib.hid hTs
            have HFL := Lib.hid hFL
            have HDD := Lib.hid hD1
            clear hdz hrx hbz hf hfm hff hgm hgb htk hfl hak hnm hc1 hca hT hX2 hTs hFL
            clear hD1 hD2
            cases D1 with
            | true =>
              rw [if_pos rfl, if_neg (by decide)] at HR1
              have hT0 := HT.out.1
              rw [if_pos rfl] at hT0
              subst hT0
              go_wp2_with fail
              refine HR1.mono ?_
              rintro e wa ⟨vx, rfl, hox, hba⟩
              obtain ⟨ra, rc, hre⟩ := hox.rd.slice
              subst hre
              have HA1 := Lib.hid (And.intro hba hox.rd)
              have z1' := HFC.out wa hba
              rw [List.length_nil]
              clear hba hox z1 HR1
              go_wp2_with fail
              refine (HR2.out wa (HZ.out.1.below HA1.out.1)).mono ?_
              rintro e wb ⟨vy, rfl, hoy, hbb⟩
              have HB1 := Lib.hid (HA1.out.1.trans (hbb.mono HA1.out.1.size))
              obtain ⟨c2, hc2⟩ : ∃ c2 : Int, c2 = ((if D2 = true then 9 else 0 : Nat) : Int) := ⟨_, rfl⟩
              rw [← hc2]
              obtain ⟨sa, sc, hse⟩ := hoy.rd.slice
              subst hse
              clear hbb hoy z1' hc2
              go_wp2_with fail
              go_roundw
              case rel => exact ⟨j + 1, 0, by omega, by go_num, rfl, by rw [if_pos HDD.out.symm], HZ.out.1.below HB1.out, HZ.out.2.1.below HB1.out, HZ.out.2.2.trans (HB1.out.mono HZ.out.2.2.size)⟩
              case measure => simp [intOf]; omega
            | false =>
              rw [if_neg (by decide), if_pos rfl] at HR1
              have hT0 := HT.out.1
              rw [if_neg (by decide)] at hT0
              have HT0 := Lib.hid hT0
              have hTs := HTS.out
              rw [← HFL.out] at hTs
              obtain ⟨t6, t7⟩ := wrap_sum T FL hTs
              clear hT0 hTs
              go_wp2_with fail
              refine HR1.mono ?_
              rintro e wa ⟨vx, rfl, hox, hba⟩
              obtain ⟨ra, rc, hre⟩ := hox.rd.slice
              subst hre
              have HA1 := Lib.hid (And.intro hba hox.rd)
              have z1' := HFC.out wa hba
              rw [← HFL.out]
              clear hba hox z1 HR1
              go_wp2_with fail
              refine (HR2.out wa (HZ.out.1.below HA1.out.1)).mono ?_
              rintro e wb ⟨vy, rfl, hoy, hbb⟩
              have HB1 := Lib.hid (HA1.out.1.trans (hbb.mono HA1.out.1.size))
              obtain ⟨c2, hc2⟩ : ∃ c2 : Int, c2 = ((if D2 = true then 9 else 0 : Nat) : Int) := ⟨_, rfl⟩
              rw [← hc2]
              obtain ⟨sa, sc, hse⟩ := hoy.rd.slice
              subst hse
              clear hbb hoy z1' hc2
              go_wp2_with fail
              go_roundw
              case rel => exact ⟨j + 1, T + FL, by omega, by go_num, rfl, by rw [if_neg (by rw [← HDD.out]; decide), HT.out.2.1, ← HT0.out, HFL.out], HZ.out.1.below HB1.out, HZ.out.2.1.below HB1.out, HZ.out.2.2.trans (HB1.out.mono HZ.out.2.2.size)⟩
              case measure => simp [intOf]; omega
      case neg =>
        have u0 : ((cv : Int) == 0) = false := by rw [beq_eq_false_iff_ne]; omega
        have u1 : ((cv : Int) != 0) = true := by rw [bne_iff_ne]; omega
        have HCV : Hid ((cv : Int) ≠ 0) := Lib.hid (by omega)
        have HEF : Hid ((cv : Int) ≠ 0 → st1.fs = st.fs) := Lib.hid (fun h => HAT.out.2.1 hc0)
        by_cases hc8 : cv = 8
        case pos =>
          have t8 : ¬ (TT + BL ≤ N) := by have := HAT.out.2.2 hc8; omega
          have t9 : ¬ ((TT : Int) + (BL : Int) ≤ (N : Int)) := by omega
          have t10 : decide (TT + BL ≤ N) = false := decide_eq_false t8
          have t11 : decide ((TT : Int) + (BL : Int) ≤ (N : Int)) = false := decide_eq_false t9
          subst hc8
          clear hc0
          have f2d : W4.drew.cell? ⟨wr.heap.size, 2, none⟩ = some (.slice ba BL bc) := (World.cell?_of_block (a := ⟨wr.heap.size, 2, none⟩) ((Below.refl W4.heap.size W4).drew.block wr.heap.size HLT4.out)).trans f2
          have HDd := Lib.hid (HD.out.below (Below.refl _ _).drew)
          have HBd := Lib.hid (HB.out.trans ((Below.refl W4.heap.size W4).drew.mono HB.out.size))
          go_wp2_with fail
          refine wp_region_U (S := (fun W => W = W4.drew)) (by kernel_rfl) ?_ ?_
          · rfl
          refine wpU_take (i := 0) (oi := ?oi26) (v := ?v26) ?hi26 (by kernel_rfl) (by kernel_rfl) (by kernel_rfl) ?hy26 ?rest26
          case hi26 => (simp only [List.getElem?_toArray, List.getElem?_cons_succ, List.getElem?_cons_zero]; rfl)
          case hy26 => (refine Or.inl ⟨by rfl, ?_⟩; intro W hSw; (obtain rfl : W = W4.drew := hSw); go_simp; (try with_reducible rfl))
          try simp only [Act.put, List.setIfInBounds_toArray, List.set_cons_zero, List.set_cons_succ]
          refine wpU_take (i := 1) (oi := ?oi27) (v := ?v27) ?hi27 (by kernel_rfl) (by kernel_rfl) (by kernel_rfl) ?hy27 ?rest27
          case hi27 => (simp only [List.getElem?_toArray, List.getElem?_cons_succ, List.getElem?_cons_zero]; rfl)
          case hy27 => (refine Or.inl ⟨by rfl, ?_⟩; intro W hSw; (obtain rfl : W = W4.drew := hSw); go_simp; (try with_reducible rfl))
          try simp only [Act.put, List.setIfInBounds_toArray, List.set_cons_zero, List.set_cons_succ]
          refine wpU_take (i := 2) (oi := ?oi28) (v := ?v28) ?hi28 (by kernel_rfl) (by kernel_rfl) (by kernel_rfl) ?hy28 ?rest28
          case hi28 => (simp only [List.getElem?_toArray, List.getElem?_cons_succ, List.getElem?_cons_zero]; rfl)
          case hy28 => (refine Or.inl ⟨by rfl, ?_⟩; intro W hSw; (obtain rfl : W = W4.drew := hSw); go_simp; (try with_reducible rfl))
          try simp only [Act.put, List.setIfInBounds_toArray, List.set_cons_zero, List.set_cons_succ]
          refine wpU_take (i := 3) (oi := ?oi29) (v := undef) ?hi29 (by kernel_rfl) (by kernel_rfl) (by kernel_rfl) ?hy29 ?rest29
          case hi29 => (simp only [List.getElem?_toArray, List.getElem?_cons_succ, List.getElem?_cons_zero]; rfl)
          case hy29 => exact Or.inr (Or.inl ⟨by rfl, rfl⟩)
          try simp only [Act.put, List.setIfInBounds_toArray, List.set_cons_zero, List.set_cons_succ]
          refine wpU_take (i := 4) (oi := ?oi30) (v := undef) ?hi30 (by kernel_rfl) (by kernel_rfl) (by kernel_rfl) ?hy30 ?rest30
          case hi30 => (simp only [List.getElem?_toArray, List.getElem?_cons_succ, List.getElem?_cons_zero]; rfl)
          case hy30 => exact Or.inr (Or.inl ⟨by rfl, rfl⟩)
          try simp only [Act.put, List.setIfInBounds_toArray, List.set_cons_zero, List.set_cons_succ]
          refine wpU_take (i := 5) (oi := ?oi31) (v := undef) ?hi31 (by kernel_rfl) (by kernel_rfl) (by kernel_rfl) ?hy31 ?rest31
          case hi31 => (simp only [List.getElem?_toArray, List.getElem?_cons_succ, List.getElem?_cons_zero]; rfl)
          case hy31 => exact Or.inr (Or.inl ⟨by rfl, rfl⟩)
          try simp only [Act.put, List.setIfInBounds_toArray, List.set_cons_zero, List.set_cons_succ]
          refine wpU_take (i := 6) (oi := ?oi32) (v := undef) ?hi32 (by kernel_rfl) (by kernel_rfl) (by kernel_rfl) ?hy32 ?rest32
          case hi32 => (simp only [List.getElem?_toArray, List.getElem?_cons_succ, List.getElem?_cons_zero]; rfl)
          case hy32 => exact Or.inr (Or.inl ⟨by rfl, rfl⟩)
          try simp only [Act.put, List.setIfInBounds_toArray, List.set_cons_zero, List.set_cons_succ]
          refine wpU_take (i := 7) (oi := ?oi33) (v := undef) ?hi33 (by kernel_rfl) (by kernel_rfl) (by kernel_rfl) ?hy33 ?rest33
          case hi33 => (simp only [List.getElem?_toArray, List.getElem?_cons_succ, List.getElem?_cons_zero]; rfl)
          case hy33 => exact Or.inr (Or.inl ⟨by rfl, rfl⟩)
          try simp only [Act.put, List.setIfInBounds_toArray, List.set_cons_zero, List.set_cons_succ]
          refine wpU_take (i := 8) (oi := ?oi34) (v := undef) ?hi34 (by kernel_rfl) (by kernel_rfl) (by kernel_rfl) ?hy34 ?rest34
          case hi34 => (simp only [List.getElem?_toArray, List.getElem?_cons_succ, List.getElem?_cons_zero]; rfl)
          case hy34 => exact Or.inr (Or.inl ⟨by rfl, rfl⟩)
          try simp only [Act.put, List.setIfInBounds_toArray, List.set_cons_zero, List.set_cons_succ]
          refine wpU_take (i := 9) (oi := ?oi35) (v := undef) ?hi35 (by kernel_rfl) (by kernel_rfl) (by kernel_rfl) ?hy35 ?rest35
          case hi35 => (simp only [List.getElem?_toArray, List.getElem?_cons_succ, List.getElem?_cons_zero]; rfl)
          case hy35 => exact Or.inr (Or.inl ⟨by rfl, rfl⟩)
          try simp only [Act.put, List.setIfInBounds_toArray, List.set_cons_zero, List.set_cons_succ]
          refine wpU_take (i := 10) (oi := ?oi36) (v := undef) ?hi36 (by kernel_rfl) (by kernel_rfl) (by kernel_rfl) ?hy36 ?rest36
          case hi36 => (simp only [List.getElem?_toArray, List.getElem?_cons_succ, List.getElem?_cons_zero]; rfl)
          case hy36 => exact Or.inr (Or.inl ⟨by rfl, rfl⟩)
          try simp only [Act.put, List.setIfInBounds_toArray, List.set_cons_zero, List.set_cons_succ]
          refine wpU_take (i := 11) (oi := ?oi37) (v := ?v37) ?hi37 (by kernel_rfl) (by kernel_rfl) (by kernel_rfl) ?hy37 ?rest37
          case hi37 => (simp only [List.getElem?_toArray, List.getElem?_cons_succ, List.getElem?_cons_zero]; rfl)
          case hy37 => (refine Or.inl ⟨by rfl, ?_⟩; intro W hSw; (obtain rfl : W = W4.drew := hSw); go_simp; (try with_reducible rfl))
          try simp only [Act.put, List.setIfInBounds_toArray, List.set_cons_zero, List.set_cons_succ]
          refine wpU_take (i := 12) (oi := ?oi38) (v := ?v38) ?hi38 (by kernel_rfl) (by kernel_rfl) (by kernel_rfl) ?hy38 ?rest38
          case hi38 => (simp only [List.getElem?_toArray, List.getElem?_cons_succ, List.getElem?_cons_zero]; rfl)
          case hy38 => (refine Or.inl ⟨by rfl, ?_⟩; intro W hSw; (obtain rfl : W = W4.drew := hSw); go_simp; (try with_reducible rfl))
          try simp only [Act.put, List.setIfInBounds_toArray, List.set_cons_zero, List.set_cons_succ]
          refine wpU_take (i := 13) (oi := ?oi39) (v := ?v39) ?hi39 (by kernel_rfl) (by kernel_rfl) (by kernel_rfl) ?hy39 ?rest39
          case hi39 => (simp only [List.getElem?_toArray, List.getElem?_cons_succ, List.getElem?_cons_zero]; rfl)
          case hy39 => (refine Or.inl ⟨by rfl, ?_⟩; intro W hSw; (obtain rfl : W = W4.drew := hSw); go_simp; (try with_reducible rfl))
          try simp only [Act.put, List.setIfInBounds_toArray, List.set_cons_zero, List.set_cons_succ]
          refine wpU_take (i := 14) (oi := ?oi40) (v := ?v40) ?hi40 (by kernel_rfl) (by kernel_rfl) (by kernel_rfl) ?hy40 ?rest40
          case hi40 => (simp only [List.getElem?_toArray, List.getElem?_cons_succ, List.getElem?_cons_zero]; rfl)
          case hy40 => (refine Or.inl ⟨by rfl, ?_⟩; intro W hSw; (obtain rfl : W = W4.drew := hSw); go_simp; (try with_reducible rfl))
          try simp only [Act.put, List.setIfInBounds_toArray, List.set_cons_zero, List.set_cons_succ]
          refine wpU_take (i := 15) (oi := ?oi41) (v := ?v41) ?hi41 (by kernel_rfl) (by kernel_rfl) (by kernel_rfl) ?hy41 ?rest41
          case hi41 => (simp only [List.getElem?_toArray, List.getElem?_cons_succ, List.getElem?_cons_zero]; rfl)
          case hy41 => (refine Or.inl ⟨by rfl, ?_⟩; intro W hSw; (obtain rfl : W = W4.drew := hSw); go_simp; (try with_reducible rfl))
          try simp only [Act.put, List.setIfInBounds_toArray, List.set_cons_zero, List.set_cons_succ]
          refine wpU_take (i := 16) (oi := ?oi42) (v := ?v42) ?hi42 (by kernel_rfl) (by kernel_rfl) (by kernel_rfl) ?hy42 ?rest42
          case hi42 => (simp only [List.getElem?_toArray, List.getElem?_cons_succ, List.getElem?_cons_zero]; rfl)
          case hy42 => (refine Or.inl ⟨by rfl, ?_⟩; intro W hSw; (obtain rfl : W = W4.drew := hSw); go_simp; (try with_reducible rfl))
          try simp only [Act.put, List.setIfInBounds_toArray, List.set_cons_zero, List.set_cons_succ]
          refine wpU_take (i := 17) (oi := ?oi43) (v := ?v43) ?hi43 (by kernel_rfl) (by kernel_rfl) (by kernel_rfl) ?hy43 ?rest43
          case hi43 => (simp only [List.getElem?_toArray, List.getElem?_cons_succ, List.getElem?_cons_zero]; rfl)
          case hy43 => (refine Or.inl ⟨by rfl, ?_⟩; intro W hSw; (obtain rfl : W = W4.drew := hSw); go_simp; (try with_reducible rfl))
          try simp only [Act.put, List.setIfInBounds_toArray, List.set_cons_zero, List.set_cons_succ]
          refine wpU_take (i := 18) (oi := ?oi44) (v := ?v44) ?hi44 (by kernel_rfl) (by kernel_rfl) (by kernel_rfl) ?hy44 ?rest44
          case hi44 => (simp only [List.getElem?_toArray, List.getElem?_cons_succ, List.getElem?_cons_zero]; rfl)
          case hy44 => (refine Or.inl ⟨by rfl, ?_⟩; intro W hSw; (obtain rfl : W = W4.drew := hSw); go_simp; (try with_reducible rfl))
          try simp only [Act.put, List.setIfInBounds_toArray, List.set_cons_zero, List.set_cons_succ]
          refine wpU_take (i := 19) (oi := ?oi45) (v := ?v45) ?hi45 (by kernel_rfl) (by kernel_rfl) (by kernel_rfl) ?hy45 ?rest45
          case hi45 => (simp only [List.getElem?_toArray, List.getElem?_cons_succ, List.getElem?_cons_zero]; rfl)
          case hy45 => (refine Or.inl ⟨by rfl, ?_⟩; intro W hSw; (obtain rfl : W = W4.drew := hSw); go_simp; (try with_reducible rfl))
          try simp only [Act.put, List.setIfInBounds_toArray, List.set_cons_zero, List.set_cons_succ]
          refine wpU_take (i := 20) (oi := ?oi46) (v := ?v46) ?hi46 (by kernel_rfl) (by kernel_rfl) (by kernel_rfl) ?hy46 ?rest46
          case hi46 => (simp only [List.getElem?_toArray, List.getElem?_cons_succ, List.getElem?_cons_zero]; rfl)
          case hy46 => (refine Or.inl ⟨by rfl, ?_⟩; intro W hSw; (obtain rfl : W = W4.drew := hSw); go_simp; (try with_reducible rfl))
          try simp only [Act.put, List.setIfInBounds_toArray, List.set_cons_zero, List.set_cons_succ]
          refine wpU_take (i := 21) (oi := ?oi47) (v := ?v47) ?hi47 (by kernel_rfl) (by kernel_rfl) (by kernel_rfl) ?hy47 ?rest47
          case hi47 => (simp only [List.getElem?_toArray, List.getElem?_cons_succ, List.getElem?_cons_zero]; rfl)
          case hy47 => (refine Or.inl ⟨by rfl, ?_⟩; intro W hSw; (obtain rfl : W = W4.drew := hSw); go_simp; (try with_reducible rfl))
          try simp only [Act.put, List.setIfInBounds_toArray, List.set_cons_zero, List.set_cons_succ]
          refine wpU_take (i := 22) (oi := ?oi48) (v := ?v48) ?hi48 (by kernel_rfl) (by kernel_rfl) (by kernel_rfl) ?hy48 ?rest48
          case hi48 => (simp only [List.getElem?_toArray, List.getElem?_cons_succ, List.getElem?_cons_zero]; rfl)
          case hy48 => (refine Or.inl ⟨by rfl, ?_⟩; intro W hSw; (obtain rfl : W = W4.drew := hSw); go_simp; (try with_reducible rfl))
          try simp only [Act.put, List.setIfInBounds_toArray, List.set_cons_zero, List.set_cons_succ]
          refine wpU_take (i := 23) (oi := ?oi49) (v := ?v49) ?hi49 (by kernel_rfl) (by kernel_rfl) (by kernel_rfl) ?hy49 ?rest49
          case hi49 => (simp only [List.getElem?_toArray, List.getElem?_cons_succ, List.getElem?_cons_zero]; rfl)
          case hy49 => (refine Or.inl ⟨by rfl, ?_⟩; intro W hSw; (obtain rfl : W = W4.drew := hSw); go_simp; (try with_reducible rfl))
          try simp only [Act.put, List.setIfInBounds_toArray, List.set_cons_zero, List.set_cons_succ]
          refine wpU_take (i := 24) (oi := ?oi50) (v := ?v50) ?hi50 (by kernel_rfl) (by kernel_rfl) (by kernel_rfl) ?hy50 ?rest50
          case hi50 => (simp only [List.getElem?_toArray, List.getElem?_cons_succ, List.getElem?_cons_zero]; rfl)
          case hy50 => (refine Or.inl ⟨by rfl, ?_⟩; intro W hSw; (obtain rfl : W = W4.drew := hSw); go_simp; (try with_reducible rfl))
          try simp only [Act.put, List.setIfInBounds_toArray, List.set_cons_zero, List.set_cons_succ]
          refine wpU_done (by kernel_rfl) ?_ _
          intro W hSw
          obtain rfl : W = W4.drew := hSw
          clear f2 f2d t6 t7 HUS HD HB HLT4
          have HD := HDd
          have HB := HBd
          clear HDd HBd
          generalize W4.drew = W4 at *
          clear t8 t9 t10 t11
          go_wp2_with fail
          refine (names_any q m st1 sl1 W4 HD.out.pp).mono ?_
          rintro e W5 ⟨nv, rfl, hn5, hb5⟩
          obtain ⟨na, nc, hne⟩ := hn5.rd.slice
          subst hne
          have hr5 := hn5.rd
          obtain ⟨NM, hNM⟩ : ∃ NM, NM = st1.fs.length := ⟨_, rfl⟩
          have HNN : Hid ((names st1.fs).length = NM) := Lib.hid (by rw [hNM]; unfold names; rw [List.length_map])
          rw [HNN.out] at hr5 ⊢
          have HO5 : Hid (∀ g, Value.ownBlock (.slice na NM nc) = some g → W4.heap.size ≤ g ∧ g < W5.heap.size) := Lib.hid (fun g hg => by
            have h1 := World.ownsRow.lt hn5 g (by rw [HNN.out]; exact hg)
            exact h1)
          have H5 := Lib.hid (And.intro (HD.out.below hb5) (And.intro hr5 (HB.out.trans (hb5.mono HB.out.size))))
          have HARM := arm_any q m st1 sl1 (-1) W5 H5.out.1.pp (by decide)
          have HNM0 := Lib.hid hNM
          clear hn5 hb5 hr5 hNM
          go_wp2_with fail
          refine HARM.mono ?_
          rintro e W6 ⟨rfl, hp6, ho6⟩
          have hc6 := H5.out.1.call hp6 (ho6.mono (fun k _ hk => .inl hk)) (fun k hk => .inl (by rw [(arm_fs st1 (-1)).1] at hk; exact hk))
          have hr6 := rd_keep H5.out.2.1 (fun g hg => ho6.block g (HO5.out g hg).2 (fun e => by have h1 := (HO5.out g hg).1; have h2 := HD.out.pp.blk.lt; omega))
          have HAF : Hid ((arm st1 (-1)).fs = st1.fs ∧ (arm st1 (-1)).room = N) := Lib.hid ⟨(arm_fs st1 (-1)).1, (arm_fs st1 (-1)).2.2.trans HRM.out⟩
          have hNM := HNM0.out
          rw [← HAF.out.1] at hr6 hNM
          obtain ⟨st2, hst2⟩ : ∃ st2, st2 = arm st1 (-1) := ⟨_, rfl⟩
          rw [← hst2] at HAF hc6 hr6 hNM
          have hd6 := hc6.1
          have hb6 := H5.out.2.2.trans hc6.2
          have HNM := Lib.hid hNM
          have hLM : NM ≤ 268435456 := by
            have h1 := len_tot st2.fs (fun f hf => (hd6.pp.fit.file f hf).1)
            have h2 := hd6.pp.fit.tot
            have h3 := hd6.pp.fit.room
            rw [hNM]; omega
          clear hp6 ho6 hc6 HARM HO5 H5 HB HD hst2 hNM HNM0 HNN
          go_wp2_with fail
          go_loopw [12, 14] (fun nn i wr' => ∃ (j T : Nat), j ≤ NM ∧ i = .int .i64 (j : Int) ∧ nn = .int .i64 (T : Int) ∧ T = (if st2.down = true then 0 else tot (st2.fs.take j)) ∧ Duet w.heap.size wr' q m q2 m2 st2 st sl1 sl2 ∧ Rd wr' 1 (.slice na NM nc) NM ((names st2.fs).map sv) ∧ Below w.heap.size w wr') (fun _ i _ => NM - (intOf i).toNat)
          case atStart => exact ⟨0, 0, Nat.zero_le _, rfl, rfl, by split <;> rfl, hd6, hr6, hb6⟩
          case round =>
            clear hd6 hr6 hb6
            obtain ⟨j, T, hj, rfl, rfl, hT, hdz, hrx, hbz⟩ := hrel
            by_cases hjn : j < NM
            case neg =>
              have hj' : ¬ (j : Int) < (NM : Int) := by omega
              obtain rfl : j = NM := by omega
              rw [HNM.out, List.take_length] at hT
              have hTl : ((tot st2.fs : Nat) : Int) ≤ (N : Int) := by
                have h1 := hdz.pp.fit.tot
                have h2 := HAF.out.2
                omega
              have HZ := Lib.hid (And.intro hdz hbz)
              have HDN := down_any q m st2 sl1 wr hdz.pp
              have HUS := used_any q m st2 sl1 wr hdz.pp
              clear hdz hrx hbz
              cases hD : st2.down with
              | true =>
                rw [hD] at HDN
                obtain ⟨U, hU⟩ : ∃ U, U = tot st2.fs := ⟨_, rfl⟩
                rw [← hU] at hTl HUS
                have t5 : ¬ (N : Int) < (U : Int) := by omega
                clear hT hD hU
                go_wp2_with fail
                refine HDN.mono ?_
                rintro e W7 ⟨rfl, hw7⟩
                obtain rfl := hw7.symm
                go_wp2_with fail
                refine HUS.mono ?_
                rintro e W8 ⟨rfl, hw8⟩
                obtain rfl := hw8.symm
                clear HUS HDN
                go_wp2_with fail
                go_roundw
                case rel => exact ⟨k + 1, st2, by omega, by go_num, ⟨HZ.out.2, HZ.out.1.bs, sl1, HZ.out.1.pp, HZ.out.1.bp⟩, HAF.out.2⟩
                case measure => simp [intOf]; omega
              | false =>
                rw [hD] at HDN hT
                rw [if_neg (by simp)] at hT
                rw [← hT] at hTl HUS
                have t5 : ¬ (N : Int) < (T : Int) := by omega
                clear hT hD
                go_wp2_with fail
                refine HDN.mono ?_
                rintro e W7 ⟨rfl, hw7⟩
                obtain rfl := hw7.symm
                go_wp2_with fail
                refine HUS.mono ?_
                rintro e W8 ⟨rfl, hw8⟩
                obtain rfl := hw8.symm
                go_wp2_with fail
                refine HUS.mono ?_
                rintro e W9 ⟨rfl, hw9⟩
                obtain rfl := hw9.symm
                clear HUS HDN
                go_wp2_with fail
                go_roundw
                case rel => exact ⟨k + 1, st2, by omega, by go_num, ⟨HZ.out.2, HZ.out.1.bs, sl1, HZ.out.1.pp, HZ.out.1.bp⟩, HAF.out.2⟩
                case measure => simp [intOf]; omega
            case pos =>
              have t5 : (j : Int) < (NM : Int) := by omega
              obtain ⟨f, hf⟩ : ∃ f, st2.fs[j]? = some f := ⟨_, List.getElem?_eq_getElem (by have := HNM.out; omega)⟩
              have hfm := List.mem_of_getElem? hf
              have hff := hdz.pp.fit.file f hfm
              have hgm := get_mem hdz.pp.fit.asc hfm
              have hgb : gB st2.fs f.n = f.b := by unfold gB; rw [hgm]; rfl
              have htk := tot_take_succ hf
              have hfl : tot (st2.fs.take (j + 1)) ≤ 268435456 := by
                have h2 := tot_take_le st2.fs (j + 1)
                have h3 := hdz.pp.fit.tot
                have h4 := hdz.pp.fit.room
                omega
              have hak : ∀ d, askedC d f.n = if d then 9 else 0 := fun d => by unfold askedC; rw [if_neg (by omega)]
              have hnm : ((names st2.fs).map sv)[j]? = some (.string ⟨f.n.toArray⟩) := by unfold names; rw [List.getElem?_map, List.getElem?_map, hf]; rfl
              have HR1 := read_any q m st2 sl1 f.n wr hdz.pp (by omega)
              rw [hgb, hak] at HR1
              obtain ⟨X2, hX2⟩ : ∃ X2, X2 = gB st.fs f.n := ⟨_, rfl⟩
              have HR2 : Hid (∀ W, Duet w.heap.size W q m q2 m2 st2 st sl1 sl2 → Calls Try.prog 18 #[.pointer (some ⟨q2, 0, none⟩), .string ⟨f.n.toArray⟩] W fun e w' => ∃ v', e = .returned (.tuple #[v', .int .i64 ((if st.down = true then 9 else 0 : Nat) : Int)]) ∧ OwnB w' W.heap.size v' (if (if st.down = true then 9 else 0 : Nat) = 0 then X2 else []) ∧ Below W.heap.size W w') := Lib.hid (fun W hW => by
                have h := read_any q2 m2 st sl2 f.n W hW.pq (by omega)
                rw [← hX2, hak] at h
                exact h)
              have HE : Hid (((8 : Nat) : Int) ≠ 0 → X2 = f.b) := Lib.hid (fun h => by rw [hX2, ← HEF.out h, ← HAF.out.1]; exact hgb)
              have HX2 : Hid (X2.length ≤ 268435456) := Lib.hid (by
                rw [hX2]
                have h1 := gB_tot (fs := st.fs) f.n
                have h2 := hdz.pq.fit.tot
                have h3 := hdz.pq.fit.room
                omega)
              obtain ⟨ba5, oa5, ca5, e1, hca, hc1⟩ := hrx.pos (by omega)
              cases e1
              have z1 := hc1 j _ hnm
              have HZ := Lib.hid (And.intro hdz (And.intro hrx hbz))
              have HFC : Hid (∀ W, Below wr.heap.size wr W → W.cell? ⟨ba5, oa5 + j, none⟩ = some (.string ⟨f.n.toArray⟩)) := Lib.hid (fun W hW => by
                obtain ⟨ba', oa', ca', e1, _, hc1⟩ := (HZ.out.2.1.below hW).pos (by omega)
                cases e1
                exact hc1 j _ hnm)
              have HT := Lib.hid (And.intro hT (And.intro htk hfl))
              have hTs : T + f.b.length ≤ 268435456 := by
                rw [hT]; split <;> omega
              obtain ⟨FL, hFL⟩ : ∃ FL, FL = f.b.length := ⟨_, rfl⟩
              obtain ⟨D1, hD1⟩ : ∃ D1, D1 = st2.down := ⟨_, rfl⟩
              obtain ⟨D2, hD2⟩ : ∃ D2, D2 = st.down := ⟨_, rfl⟩
              rw [← hD1] at HR1 HT
              rw [← hD2] at HR2
              have HTS := Lib.hid hTs
              have HFL := Lib.hid hFL
              have HDD := Lib.hid hD1
              clear hdz hrx hbz hf hfm hff hgm hgb htk hfl hak hnm hc1 hca hT hX2 hTs hFL
              clear hD1 hD2
              cases D1 with
              | true =>
                rw [if_pos rfl, if_neg (by decide)] at HR1
                have hT0 := HT.out.1
                rw [if_pos rfl] at hT0
                subst hT0
                go_wp2_with fail
                refine HR1.mono ?_
                rintro e wa ⟨vx, rfl, hox, hba⟩
                obtain ⟨ra, rc, hre⟩ := hox.rd.slice
                subst hre
                have HA1 := Lib.hid (And.intro hba hox.rd)
                have z1' := HFC.out wa hba
                rw [List.length_nil]
                clear hba hox z1 HR1
                cases D2 with
                | true =>
                  have h2 := HR2.out wa (HZ.out.1.below HA1.out.1)
                  rw [if_pos rfl, if_neg (by decide)] at h2
                  go_wp2_with fail
                  refine h2.mono ?_
                  rintro e wb ⟨vy, rfl, hoy, hbb⟩
                  have HB1 := Lib.hid (HA1.out.1.trans (hbb.mono HA1.out.1.size))
                  obtain ⟨sa, sc, hse⟩ := hoy.rd.slice
                  subst hse
                  clear hbb hoy z1' h2
                  go_wp2_with fail
                  go_roundw
                  case rel => exact ⟨j + 1, 0, by omega, by go_num, rfl, by rw [if_pos HDD.out.symm], HZ.out.1.below HB1.out, HZ.out.2.1.below HB1.out, HZ.out.2.2.trans (HB1.out.mono HZ.out.2.2.size)⟩
                  case measure => simp [intOf]; omega
                | false =>
                  have h2 := HR2.out wa (HZ.out.1.below HA1.out.1)
                  rw [if_neg (by decide), if_pos rfl] at h2
                  go_wp2_with fail
                  refine h2.mono ?_
                  rintro e wb ⟨vy, rfl, hoy, hbb⟩
                  have HB1 := Lib.hid (HA1.out.1.trans (hbb.mono HA1.out.1.size))
                  obtain ⟨sa, sc, hse⟩ := hoy.rd.slice
                  subst hse
                  clear hbb hoy z1' h2
                  go_wp2_with fail
                  go_roundw
                  case rel => exact ⟨j + 1, 0, by omega, by go_num, rfl, by rw [if_pos HDD.out.symm], HZ.out.1.below HB1.out, HZ.out.2.1.below HB1.out, HZ.out.2.2.trans (HB1.out.mono HZ.out.2.2.size)⟩
                  case measure => simp [intOf]; omega
              | false =>
                rw [if_neg (by decide), if_pos rfl] at HR1
                have hT0 := HT.out.1
                rw [if_neg (by decide)] at hT0
                have HT0 := Lib.hid hT0
                have hTs := HTS.out
                rw [← HFL.out] at hTs
                obtain ⟨t6, t7⟩ := wrap_sum T FL hTs
                clear hT0 hTs
                go_wp2_with fail
                refine HR1.mono ?_
                rintro e wa ⟨vx, rfl, hox, hba⟩
                obtain ⟨ra, rc, hre⟩ := hox.rd.slice
                subst hre
                have HA1 := Lib.hid (And.intro hba hox.rd)
                have z1' := HFC.out wa hba
                rw [← HFL.out]
                clear hba hox z1 HR1
                cases D2 with
                | true =>
                  have h2 := HR2.out wa (HZ.out.1.below HA1.out.1)
                  rw [if_pos rfl, if_neg (by decide)] at h2
                  go_wp2_with fail
                  refine h2.mono ?_
                  rintro e wb ⟨vy, rfl, hoy, hbb⟩
                  have HB1 := Lib.hid (HA1.out.1.trans (hbb.mono HA1.out.1.size))
                  obtain ⟨sa, sc, hse⟩ := hoy.rd.slice
                  subst hse
                  clear hbb hoy z1' h2
                  go_wp2_with fail
                  go_roundw
                  case rel => exact ⟨j + 1, T + FL, by omega, by go_num, rfl, by rw [if_neg (by rw [← HDD.out]; decide), HT.out.2.1, ← HT0.out, HFL.out], HZ.out.1.below HB1.out, HZ.out.2.1.below HB1.out, HZ.out.2.2.trans (HB1.out.mono HZ.out.2.2.size)⟩
                  case measure => simp [intOf]; omega
                | false =>
                  have h2 := HR2.out wa (HZ.out.1.below HA1.out.1)
                  rw [if_neg (by decide), if_pos rfl] at h2
                  go_wp2_with fail
                  refine h2.mono ?_
                  rintro e wb ⟨vy, rfl, hoy, hbb⟩
                  have HB1 := Lib.hid (HA1.out.1.trans (hbb.mono HA1.out.1.size))
                  obtain ⟨sa, sc, hse⟩ := hoy.rd.slice
                  subst hse
                  obtain rfl := HE.out HCV.out
                  have hsm := same_any f.b f.b _ _ wb (HA1.out.2.below hbb) hoy.rd (by have h1 := HTS.out; omega)
                  rw [decide_eq_true (rfl : f.b = f.b), ← HFL.out] at hsm
                  have HSM := Lib.hid hsm
                  rw [← HFL.out]
                  have HB0 := HB1
                  clear hbb hoy z1' h2 HB1 hsm
                  go_wp2_with fail
                  refine HSM.out.mono ?_
                  rintro e wc ⟨rfl, hbc⟩
                  have HB1 := Lib.hid (HB0.out.trans (hbc.mono HB0.out.size))
                  clear hbc HSM
                  go_wp2_with fail
                  go_roundw
                  case rel => exact ⟨j + 1, T + FL, by omega, by go_num, rfl, by rw [if_neg (by rw [← HDD.out]; decide), HT.out.2.1, ← HT0.out, HFL.out], HZ.out.1.below HB1.out, HZ.out.2.1.below HB1.out, HZ.out.2.2.trans (HB1.out.mono HZ.out.2.2.size)⟩
                  case measure => simp [intOf]; omega
        case neg =>
          have u8 : ((cv : Int) == 8) = false := by rw [beq_eq_false_iff_ne]; omega
          have u9 : ((cv : Int) != 8) = true := by rw [bne_iff_ne]; omega
          clear hc0 hc8
          have f2d : W4.drew.cell? ⟨wr.heap.size, 2, none⟩ = some (.slice ba BL bc) := (World.cell?_of_block (a := ⟨wr.heap.size, 2, none⟩) ((Below.refl W4.heap.size W4).drew.block wr.heap.size HLT4.out)).trans f2
          have HDd := Lib.hid (HD.out.below (Below.refl _ _).drew)
          have HBd := Lib.hid (HB.out.trans ((Below.refl W4.heap.size W4).drew.mono HB.out.size))
          go_wp2_with fail
          refine wp_region_U (S := (fun W => W = W4.drew)) (by kernel_rfl) ?_ ?_
          · rfl
          refine wpU_take (i := 0) (oi := ?oi51) (v := ?v51) ?hi51 (by kernel_rfl) (by kernel_rfl) (by kernel_rfl) ?hy51 ?rest51
          case hi51 => (simp only [List.getElem?_toArray, List.getElem?_cons_succ, List.getElem?_cons_zero]; rfl)
          case hy51 => (refine Or.inl ⟨by rfl, ?_⟩; intro W hSw; (obtain rfl : W = W4.drew := hSw); go_simp; (try with_reducible rfl))
          try simp only [Act.put, List.setIfInBounds_toArray, List.set_cons_zero, List.set_cons_succ]
          refine wpU_take (i := 1) (oi := ?oi52) (v := ?v52) ?hi52 (by kernel_rfl) (by kernel_rfl) (by kernel_rfl) ?hy52 ?rest52
          case hi52 => (simp only [List.getElem?_toArray, List.getElem?_cons_succ, List.getElem?_cons_zero]; rfl)
          case hy52 => (refine Or.inl ⟨by rfl, ?_⟩; intro W hSw; (obtain rfl : W = W4.drew := hSw); go_simp; (try with_reducible rfl))
          try simp only [Act.put, List.setIfInBounds_toArray, List.set_cons_zero, List.set_cons_succ]
          refine wpU_take (i := 2) (oi := ?oi53) (v := ?v53) ?hi53 (by kernel_rfl) (by kernel_rfl) (by kernel_rfl) ?hy53 ?rest53
          case hi53 => (simp only [List.getElem?_toArray, List.getElem?_cons_succ, List.getElem?_cons_zero]; rfl)
          case hy53 => (refine Or.inl ⟨by rfl, ?_⟩; intro W hSw; (obtain rfl : W = W4.drew := hSw); go_simp; (try with_reducible rfl))
          try simp only [Act.put, List.setIfInBounds_toArray, List.set_cons_zero, List.set_cons_succ]
          refine wpU_take (i := 3) (oi := ?oi54) (v := undef) ?hi54 (by kernel_rfl) (by kernel_rfl) (by kernel_rfl) ?hy54 ?rest54
          case hi54 => (simp only [List.getElem?_toArray, List.getElem?_cons_succ, List.getElem?_cons_zero]; rfl)
          case hy54 => exact Or.inr (Or.inl ⟨by rfl, rfl⟩)
          try simp only [Act.put, List.setIfInBounds_toArray, List.set_cons_zero, List.set_cons_succ]
          refine wpU_take (i := 4) (oi := ?oi55) (v := undef) ?hi55 (by kernel_rfl) (by kernel_rfl) (by kernel_rfl) ?hy55 ?rest55
          case hi55 => (simp only [List.getElem?_toArray, List.getElem?_cons_succ, List.getElem?_cons_zero]; rfl)
          case hy55 => exact Or.inr (Or.inl ⟨by rfl, rfl⟩)
          try simp only [Act.put, List.setIfInBounds_toArray, List.set_cons_zero, List.set_cons_succ]
          refine wpU_take (i := 5) (oi := ?oi56) (v := undef) ?hi56 (by kernel_rfl) (by kernel_rfl) (by kernel_rfl) ?hy56 ?rest56
          case hi56 => (simp only [List.getElem?_toArray, List.getElem?_cons_succ, List.getElem?_cons_zero]; rfl)
          case hy56 => exact Or.inr (Or.inl ⟨by rfl, rfl⟩)
          try simp only [Act.put, List.setIfInBounds_toArray, List.set_cons_zero, List.set_cons_succ]
          refine wpU_take (i := 6) (oi := ?oi57) (v := undef) ?hi57 (by kernel_rfl) (by kernel_rfl) (by kernel_rfl) ?hy57 ?rest57
          case hi57 => (simp only [List.getElem?_toArray, List.getElem?_cons_succ, List.getElem?_cons_zero]; rfl)
          case hy57 => exact Or.inr (Or.inl ⟨by rfl, rfl⟩)
          try simp only [Act.put, List.setIfInBounds_toArray, List.set_cons_zero, List.set_cons_succ]
          refine wpU_take (i := 7) (oi := ?oi58) (v := undef) ?hi58 (by kernel_rfl) (by kernel_rfl) (by kernel_rfl) ?hy58 ?rest58
          case hi58 => (simp only [List.getElem?_toArray, List.getElem?_cons_succ, List.getElem?_cons_zero]; rfl)
          case hy58 => exact Or.inr (Or.inl ⟨by rfl, rfl⟩)
          try simp only [Act.put, List.setIfInBounds_toArray, List.set_cons_zero, List.set_cons_succ]
          refine wpU_take (i := 8) (oi := ?oi59) (v := undef) ?hi59 (by kernel_rfl) (by kernel_rfl) (by kernel_rfl) ?hy59 ?rest59
          case hi59 => (simp only [List.getElem?_toArray, List.getElem?_cons_succ, List.getElem?_cons_zero]; rfl)
          case hy59 => exact Or.inr (Or.inl ⟨by rfl, rfl⟩)
          try simp only [Act.put, List.setIfInBounds_toArray, List.set_cons_zero, List.set_cons_succ]
          refine wpU_take (i := 9) (oi := ?oi60) (v := undef) ?hi60 (by kernel_rfl) (by kernel_rfl) (by kernel_rfl) ?hy60 ?rest60
          case hi60 => (simp only [List.getElem?_toArray, List.getElem?_cons_succ, List.getElem?_cons_zero]; rfl)
          case hy60 => exact Or.inr (Or.inl ⟨by rfl, rfl⟩)
          try simp only [Act.put, List.setIfInBounds_toArray, List.set_cons_zero, List.set_cons_succ]
          refine wpU_take (i := 10) (oi := ?oi61) (v := undef) ?hi61 (by kernel_rfl) (by kernel_rfl) (by kernel_rfl) ?hy61 ?rest61
          case hi61 => (simp only [List.getElem?_toArray, List.getElem?_cons_succ, List.getElem?_cons_zero]; rfl)
          case hy61 => exact Or.inr (Or.inl ⟨by rfl, rfl⟩)
          try simp only [Act.put, List.setIfInBounds_toArray, List.set_cons_zero, List.set_cons_succ]
          refine wpU_take (i := 11) (oi := ?oi62) (v := ?v62) ?hi62 (by kernel_rfl) (by kernel_rfl) (by kernel_rfl) ?hy62 ?rest62
          case hi62 => (simp only [List.getElem?_toArray, List.getElem?_cons_succ, List.getElem?_cons_zero]; rfl)
          case hy62 => (refine Or.inl ⟨by rfl, ?_⟩; intro W hSw; (obtain rfl : W = W4.drew := hSw); go_simp; (try with_reducible rfl))
          try simp only [Act.put, List.setIfInBounds_toArray, List.set_cons_zero, List.set_cons_succ]
          refine wpU_take (i := 12) (oi := ?oi63) (v := ?v63) ?hi63 (by kernel_rfl) (by kernel_rfl) (by kernel_rfl) ?hy63 ?rest63
          case hi63 => (simp only [List.getElem?_toArray, List.getElem?_cons_succ, List.getElem?_cons_zero]; rfl)
          case hy63 => (refine Or.inl ⟨by rfl, ?_⟩; intro W hSw; (obtain rfl : W = W4.drew := hSw); go_simp; (try with_reducible rfl))
          try simp only [Act.put, List.setIfInBounds_toArray, List.set_cons_zero, List.set_cons_succ]
          refine wpU_take (i := 13) (oi := ?oi64) (v := ?v64) ?hi64 (by kernel_rfl) (by kernel_rfl) (by kernel_rfl) ?hy64 ?rest64
          case hi64 => (simp only [List.getElem?_toArray, List.getElem?_cons_succ, List.getElem?_cons_zero]; rfl)
          case hy64 => (refine Or.inl ⟨by rfl, ?_⟩; intro W hSw; (obtain rfl : W = W4.drew := hSw); go_simp; (try with_reducible rfl))
          try simp only [Act.put, List.setIfInBounds_toArray, List.set_cons_zero, List.set_cons_succ]
          refine wpU_take (i := 14) (oi := ?oi65) (v := ?v65) ?hi65 (by kernel_rfl) (by kernel_rfl) (by kernel_rfl) ?hy65 ?rest65
          case hi65 => (simp only [List.getElem?_toArray, List.getElem?_cons_succ, List.getElem?_cons_zero]; rfl)
          case hy65 => (refine Or.inl ⟨by rfl, ?_⟩; intro W hSw; (obtain rfl : W = W4.drew := hSw); go_simp; (try with_reducible rfl))
          try simp only [Act.put, List.setIfInBounds_toArray, List.set_cons_zero, List.set_cons_succ]
          refine wpU_take (i := 15) (oi := ?oi66) (v := ?v66) ?hi66 (by kernel_rfl) (by kernel_rfl) (by kernel_rfl) ?hy66 ?rest66
          case hi66 => (simp only [List.getElem?_toArray, List.getElem?_cons_succ, List.getElem?_cons_zero]; rfl)
          case hy66 => (refine Or.inl ⟨by rfl, ?_⟩; intro W hSw; (obtain rfl : W = W4.drew := hSw); go_simp; (try with_reducible rfl))
          try simp only [Act.put, List.setIfInBounds_toArray, List.set_cons_zero, List.set_cons_succ]
          refine wpU_take (i := 16) (oi := ?oi67) (v := undef) ?hi67 (by kernel_rfl) (by kernel_rfl) (by kernel_rfl) ?hy67 ?rest67
          case hi67 => (simp only [List.getElem?_toArray, List.getElem?_cons_succ, List.getElem?_cons_zero]; rfl)
          case hy67 => exact Or.inr (Or.inl ⟨by rfl, rfl⟩)
          try simp only [Act.put, List.setIfInBounds_toArray, List.set_cons_zero, List.set_cons_succ]
          refine wpU_take (i := 17) (oi := ?oi68) (v := undef) ?hi68 (by kernel_rfl) (by kernel_rfl) (by kernel_rfl) ?hy68 ?rest68
          case hi68 => (simp only [List.getElem?_toArray, List.getElem?_cons_succ, List.getElem?_cons_zero]; rfl)
          case hy68 => exact Or.inr (Or.inl ⟨by rfl, rfl⟩)
          try simp only [Act.put, List.setIfInBounds_toArray, List.set_cons_zero, List.set_cons_succ]
          refine wpU_take (i := 18) (oi := ?oi69) (v := undef) ?hi69 (by kernel_rfl) (by kernel_rfl) (by kernel_rfl) ?hy69 ?rest69
          case hi69 => (simp only [List.getElem?_toArray, List.getElem?_cons_succ, List.getElem?_cons_zero]; rfl)
          case hy69 => exact Or.inr (Or.inl ⟨by rfl, rfl⟩)
          try simp only [Act.put, List.setIfInBounds_toArray, List.set_cons_zero, List.set_cons_succ]
          refine wpU_take (i := 19) (oi := ?oi70) (v := undef) ?hi70 (by kernel_rfl) (by kernel_rfl) (by kernel_rfl) ?hy70 ?rest70
          case hi70 => (simp only [List.getElem?_toArray, List.getElem?_cons_succ, List.getElem?_cons_zero]; rfl)
          case hy70 => exact Or.inr (Or.inl ⟨by rfl, rfl⟩)
          try simp only [Act.put, List.setIfInBounds_toArray, List.set_cons_zero, List.set_cons_succ]
          refine wpU_take (i := 20) (oi := ?oi71) (v := undef) ?hi71 (by kernel_rfl) (by kernel_rfl) (by kernel_rfl) ?hy71 ?rest71
          case hi71 => (simp only [List.getElem?_toArray, List.getElem?_cons_succ, List.getElem?_cons_zero]; rfl)
          case hy71 => exact Or.inr (Or.inl ⟨by rfl, rfl⟩)
          try simp only [Act.put, List.setIfInBounds_toArray, List.set_cons_zero, List.set_cons_succ]
          refine wpU_take (i := 21) (oi := ?oi72) (v := undef) ?hi72 (by kernel_rfl) (by kernel_rfl) (by kernel_rfl) ?hy72 ?rest72
          case hi72 => (simp only [List.getElem?_toArray, List.getElem?_cons_succ, List.getElem?_cons_zero]; rfl)
          case hy72 => exact Or.inr (Or.inl ⟨by rfl, rfl⟩)
          try simp only [Act.put, List.setIfInBounds_toArray, List.set_cons_zero, List.set_cons_succ]
          refine wpU_take (i := 22) (oi := ?oi73) (v := undef) ?hi73 (by kernel_rfl) (by kernel_rfl) (by kernel_rfl) ?hy73 ?rest73
          case hi73 => (simp only [List.getElem?_toArray, List.getElem?_cons_succ, List.getElem?_cons_zero]; rfl)
          case hy73 => exact Or.inr (Or.inl ⟨by rfl, rfl⟩)
          try simp only [Act.put, List.setIfInBounds_toArray, List.set_cons_zero, List.set_cons_succ]
          refine wpU_take (i := 23) (oi := ?oi74) (v := ?v74) ?hi74 (by kernel_rfl) (by kernel_rfl) (by kernel_rfl) ?hy74 ?rest74
          case hi74 => (simp only [List.getElem?_toArray, List.getElem?_cons_succ, List.getElem?_cons_zero]; rfl)
          case hy74 => (refine Or.inl ⟨by rfl, ?_⟩; intro W hSw; (obtain rfl : W = W4.drew := hSw); go_simp; (try with_reducible rfl))
          try simp only [Act.put, List.setIfInBounds_toArray, List.set_cons_zero, List.set_cons_succ]
          refine wpU_take (i := 24) (oi := ?oi75) (v := ?v75) ?hi75 (by kernel_rfl) (by kernel_rfl) (by kernel_rfl) ?hy75 ?rest75
          case hi75 => (simp only [List.getElem?_toArray, List.getElem?_cons_succ, List.getElem?_cons_zero]; rfl)
          case hy75 => (refine Or.inl ⟨by rfl, ?_⟩; intro W hSw; (obtain rfl : W = W4.drew := hSw); go_simp; (try with_reducible rfl))
          try simp only [Act.put, List.setIfInBounds_toArray, List.set_cons_zero, List.set_cons_succ]
          refine wpU_done (by kernel_rfl) ?_ _
          intro W hSw
          obtain rfl : W = W4.drew := hSw
          clear f2 f2d t6 t7 HUS HD HB HLT4
          have HD := HDd
          have HB := HBd
          clear HDd HBd
          generalize W4.drew = W4 at *
          clear u8 u9
          go_wp2_with fail
          refine (names_any q m st1 sl1 W4 HD.out.pp).mono ?_
          rintro e W5 ⟨nv, rfl, hn5, hb5⟩
          obtain ⟨na, nc, hne⟩ := hn5.rd.slice
          subst hne
          have hr5 := hn5.rd
          obtain ⟨NM, hNM⟩ : ∃ NM, NM = st1.fs.length := ⟨_, rfl⟩
          have HNN : Hid ((names st1.fs).length = NM) := Lib.hid (by rw [hNM]; unfold names; rw [List.length_map])
          rw [HNN.out] at hr5 ⊢
          have HO5 : Hid (∀ g, Value.ownBlock (.slice na NM nc) = some g → W4.heap.size ≤ g ∧ g < W5.heap.size) := Lib.hid (fun g hg => by
            have h1 := World.ownsRow.lt hn5 g (by rw [HNN.out]; exact hg)
            exact h1)
          have H5 := Lib.hid (And.intro (HD.out.below hb5) (And.intro hr5 (HB.out.trans (hb5.mono HB.out.size))))
          have HARM := arm_any q m st1 sl1 (-1) W5 H5.out.1.pp (by decide)
          have HNM0 := Lib.hid hNM
          clear hn5 hb5 hr5 hNM
          go_wp2_with fail
          refine HARM.mono ?_
          rintro e W6 ⟨rfl, hp6, ho6⟩
          have hc6 := H5.out.1.call hp6 (ho6.mono (fun k _ hk => .inl hk)) (fun k hk => .inl (by rw [(arm_fs st1 (-1)).1] at hk; exact hk))
          have hr6 := rd_keep H5.out.2.1 (fun g hg => ho6.block g (HO5.out g hg).2 (fun e => by have h1 := (HO5.out g hg).1; have h2 := HD.out.pp.blk.lt; omega))
          have HAF : Hid ((arm st1 (-1)).fs = st1.fs ∧ (arm st1 (-1)).room = N) := Lib.hid ⟨(arm_fs st1 (-1)).1, (arm_fs st1 (-1)).2.2.trans HRM.out⟩
          have hNM := HNM0.out
          rw [← HAF.out.1] at hr6 hNM
          obtain ⟨st2, hst2⟩ : ∃ st2, st2 = arm st1 (-1) := ⟨_, rfl⟩
          rw [← hst2] at HAF hc6 hr6 hNM
          have hd6 := hc6.1
          have hb6 := H5.out.2.2.trans hc6.2
          have HNM := Lib.hid hNM
          have hLM : NM ≤ 268435456 := by
            have h1 := len_tot st2.fs (fun f hf => (hd6.pp.fit.file f hf).1)
            have h2 := hd6.pp.fit.tot
            have h3 := hd6.pp.fit.room
            rw [hNM]; omega
          clear hp6 ho6 hc6 HARM HO5 H5 HB HD hst2 hNM HNM0 HNN
          go_wp2_with fail
          go_loopw [12, 14] (fun nn i wr' => ∃ (j T : Nat), j ≤ NM ∧ i = .int .i64 (j : Int) ∧ nn = .int .i64 (T : Int) ∧ T = (if st2.down = true then 0 else tot (st2.fs.take j)) ∧ Duet w.heap.size wr' q m q2 m2 st2 st sl1 sl2 ∧ Rd wr' 1 (.slice na NM nc) NM ((names st2.fs).map sv) ∧ Below w.heap.size w wr') (fun _ i _ => NM - (intOf i).toNat)
          case atStart => exact ⟨0, 0, Nat.zero_le _, rfl, rfl, by split <;> rfl, hd6, hr6, hb6⟩
          case round =>
            clear hd6 hr6 hb6
            obtain ⟨j, T, hj, rfl, rfl, hT, hdz, hrx, hbz⟩ := hrel
            by_cases hjn : j < NM
            case neg =>
              have hj' : ¬ (j : Int) < (NM : Int) := by omega
              obtain rfl : j = NM := by omega
              rw [HNM.out, List.take_length] at hT
              have hTl : ((tot st2.fs : Nat) : Int) ≤ (N : Int) := by
                have h1 := hdz.pp.fit.tot
                have h2 := HAF.out.2
                omega
              have HZ := Lib.hid (And.intro hdz hbz)
              have HDN := down_any q m st2 sl1 wr hdz.pp
              have HUS := used_any q m st2 sl1 wr hdz.pp
              clear hdz hrx hbz
              cases hD : st2.down with
              | true =>
                rw [hD] at HDN
                obtain ⟨U, hU⟩ : ∃ U, U = tot st2.fs := ⟨_, rfl⟩
                rw [← hU] at hTl HUS
                have t5 : ¬ (N : Int) < (U : Int) := by omega
                clear hT hD hU
                go_wp2_with fail
                refine HDN.mono ?_
                rintro e W7 ⟨rfl, hw7⟩
                obtain rfl := hw7.symm
                go_wp2_with fail
                refine HUS.mono ?_
                rintro e W8 ⟨rfl, hw8⟩
                obtain rfl := hw8.symm
                clear HUS HDN
                go_wp2_with fail
                go_roundw
                case rel => exact ⟨k + 1, st2, by omega, by go_num, ⟨HZ.out.2, HZ.out.1.bs, sl1, HZ.out.1.pp, HZ.out.1.bp⟩, HAF.out.2⟩
                case measure => simp [intOf]; omega
              | false =>
                rw [hD] at HDN hT
                rw [if_neg (by simp)] at hT
                rw [← hT] at hTl HUS
                have t5 : ¬ (N : Int) < (T : Int) := by omega
                clear hT hD
                go_wp2_with fail
                refine HDN.mono ?_
                rintro e W7 ⟨rfl, hw7⟩
                obtain rfl := hw7.symm
                go_wp2_with fail
                refine HUS.mono ?_
                rintro e W8 ⟨rfl, hw8⟩
                obtain rfl := hw8.symm
                go_wp2_with fail
                refine HUS.mono ?_
                rintro e W9 ⟨rfl, hw9⟩
                obtain rfl := hw9.symm
                clear HUS HDN
                go_wp2_with fail
                go_roundw
                case rel => exact ⟨k + 1, st2, by omega, by go_num, ⟨HZ.out.2, HZ.out.1.bs, sl1, HZ.out.1.pp, HZ.out.1.bp⟩, HAF.out.2⟩
                case measure => simp [intOf]; omega
            case pos =>
              have t5 : (j : Int) < (NM : Int) := by omega
              obtain ⟨f, hf⟩ : ∃ f, st2.fs[j]? = some f := ⟨_, List.getElem?_eq_getElem (by have := HNM.out; omega)⟩
              have hfm := List.mem_of_getElem? hf
              have hff := hdz.pp.fit.file f hfm
              have hgm := get_mem hdz.pp.fit.asc hfm
              have hgb : gB st2.fs f.n = f.b := by unfold gB; rw [hgm]; rfl
              have htk := tot_take_succ hf
              have hfl : tot (st2.fs.take (j + 1)) ≤ 268435456 := by
                have h2 := tot_take_le st2.fs (j + 1)
                have h3 := hdz.pp.fit.tot
                have h4 := hdz.pp.fit.room
                omega
              have hak : ∀ d, askedC d f.n = if d then 9 else 0 := fun d => by unfold askedC; rw [if_neg (by omega)]
              have hnm : ((names st2.fs).map sv)[j]? = some (.string ⟨f.n.toArray⟩) := by unfold names; rw [List.getElem?_map, List.getElem?_map, hf]; rfl
              have HR1 := read_any q m st2 sl1 f.n wr hdz.pp (by omega)
              rw [hgb, hak] at HR1
              obtain ⟨X2, hX2⟩ : ∃ X2, X2 = gB st.fs f.n := ⟨_, rfl⟩
              have HR2 : Hid (∀ W, Duet w.heap.size W q m q2 m2 st2 st sl1 sl2 → Calls Try.prog 18 #[.pointer (some ⟨q2, 0, none⟩), .string ⟨f.n.toArray⟩] W fun e w' => ∃ v', e = .returned (.tuple #[v', .int .i64 ((if st.down = true then 9 else 0 : Nat) : Int)]) ∧ OwnB w' W.heap.size v' (if (if st.down = true then 9 else 0 : Nat) = 0 then X2 else []) ∧ Below W.heap.size W w') := Lib.hid (fun W hW => by
                have h := read_any q2 m2 st sl2 f.n W hW.pq (by omega)
                rw [← hX2, hak] at h
                exact h)
              have HE : Hid ((cv : Int) ≠ 0 → X2 = f.b) := Lib.hid (fun h => by rw [hX2, ← HEF.out h, ← HAF.out.1]; exact hgb)
              have HX2 : Hid (X2.length ≤ 268435456) := Lib.hid (by
                rw [hX2]
                have h1 := gB_tot (fs := st.fs) f.n
                have h2 := hdz.pq.fit.tot
                have h3 := hdz.pq.fit.room
                omega)
              obtain ⟨ba5, oa5, ca5, e1, hca, hc1⟩ := hrx.pos (by omega)
              cases e1
              have z1 := hc1 j _ hnm
              have HZ := Lib.hid (And.intro hdz (And.intro hrx hbz))
              have HFC : Hid (∀ W, Below wr.heap.size wr W → W.cell? ⟨ba5, oa5 + j, none⟩ = some (.string ⟨f.n.toArray⟩)) := Lib.hid (fun W hW => by
                obtain ⟨ba', oa', ca', e1, _, hc1⟩ := (HZ.out.2.1.below hW).pos (by omega)
                cases e1
                exact hc1 j _ hnm)
              have HT := Lib.hid (And.intro hT (And.intro htk hfl))
              have hTs : T + f.b.length ≤ 268435456 := by
                rw [hT]; split <;> omega
              obtain ⟨FL, hFL⟩ : ∃ FL, FL = f.b.length := ⟨_, rfl⟩
              obtain ⟨D1, hD1⟩ : ∃ D1, D1 = st2.down := ⟨_, rfl⟩
              obtain ⟨D2, hD2⟩ : ∃ D2, D2 = st.down := ⟨_, rfl⟩
              rw [← hD1] at HR1 HT
              rw [← hD2] at HR2
              have HTS := Lib.hid hTs
              have HFL := Lib.hid hFL
              have HDD := Lib.hid hD1
              clear hdz hrx hbz hf hfm hff hgm hgb htk hfl hak hnm hc1 hca hT hX2 hTs hFL
              clear hD1 hD2
              cases D1 with
              | true =>
                rw [if_pos rfl, if_neg (by decide)] at HR1
                have hT0 := HT.out.1
                rw [if_pos rfl] at hT0
                subst hT0
                go_wp2_with fail
                refine HR1.mono ?_
                rintro e wa ⟨vx, rfl, hox, hba⟩
                obtain ⟨ra, rc, hre⟩ := hox.rd.slice
                subst hre
                have HA1 := Lib.hid (And.intro hba hox.rd)
                have z1' := HFC.out wa hba
                rw [List.length_nil]
                clear hba hox z1 HR1
                cases D2 with
                | true =>
                  have h2 := HR2.out wa (HZ.out.1.below HA1.out.1)
                  rw [if_pos rfl, if_neg (by decide)] at h2
                  go_wp2_with fail
                  refine h2.mono ?_
                  rintro e wb ⟨vy, rfl, hoy, hbb⟩
                  have HB1 := Lib.hid (HA1.out.1.trans (hbb.mono HA1.out.1.size))
                  obtain ⟨sa, sc, hse⟩ := hoy.rd.slice
                  subst hse
                  clear hbb hoy z1' h2
                  go_wp2_with fail
                  go_roundw
                  case rel => exact ⟨j + 1, 0, by omega, by go_num, rfl, by rw [if_pos HDD.out.symm], HZ.out.1.below HB1.out, HZ.out.2.1.below HB1.out, HZ.out.2.2.trans (HB1.out.mono HZ.out.2.2.size)⟩
                  case measure => simp [intOf]; omega
                | false =>
                  have h2 := HR2.out wa (HZ.out.1.below HA1.out.1)
                  rw [if_neg (by decide), if_pos rfl] at h2
                  go_wp2_with fail
                  refine h2.mono ?_
                  rintro e wb ⟨vy, rfl, hoy, hbb⟩
                  have HB1 := Lib.hid (HA1.out.1.trans (hbb.mono HA1.out.1.size))
                  obtain ⟨sa, sc, hse⟩ := hoy.rd.slice
                  subst hse
                  clear hbb hoy z1' h2
                  go_wp2_with fail
                  go_roundw
                  case rel => exact ⟨j + 1, 0, by omega, by go_num, rfl, by rw [if_pos HDD.out.symm], HZ.out.1.below HB1.out, HZ.out.2.1.below HB1.out, HZ.out.2.2.trans (HB1.out.mono HZ.out.2.2.size)⟩
                  case measure => simp [intOf]; omega
              | false =>
                rw [if_neg (by decide), if_pos rfl] at HR1
                have hT0 := HT.out.1
                rw [if_neg (by decide)] at hT0
                have HT0 := Lib.hid hT0
                have hTs := HTS.out
                rw [← HFL.out] at hTs
                obtain ⟨t6, t7⟩ := wrap_sum T FL hTs
                clear hT0 hTs
                go_wp2_with fail
                refine HR1.mono ?_
                rintro e wa ⟨vx, rfl, hox, hba⟩
                obtain ⟨ra, rc, hre⟩ := hox.rd.slice
                subst hre
                have HA1 := Lib.hid (And.intro hba hox.rd)
                have z1' := HFC.out wa hba
                rw [← HFL.out]
                clear hba hox z1 HR1
                cases D2 with
                | true =>
                  have h2 := HR2.out wa (HZ.out.1.below HA1.out.1)
                  rw [if_pos rfl, if_neg (by decide)] at h2
                  go_wp2_with fail
                  refine h2.mono ?_
                  rintro e wb ⟨vy, rfl, hoy, hbb⟩
                  have HB1 := Lib.hid (HA1.out.1.trans (hbb.mono HA1.out.1.size))
                  obtain ⟨sa, sc, hse⟩ := hoy.rd.slice
                  subst hse
                  clear hbb hoy z1' h2
                  go_wp2_with fail
                  go_roundw
                  case rel => exact ⟨j + 1, T + FL, by omega, by go_num, rfl, by rw [if_neg (by rw [← HDD.out]; decide), HT.out.2.1, ← HT0.out, HFL.out], HZ.out.1.below HB1.out, HZ.out.2.1.below HB1.out, HZ.out.2.2.trans (HB1.out.mono HZ.out.2.2.size)⟩
                  case measure => simp [intOf]; omega
                | false =>
                  have h2 := HR2.out wa (HZ.out.1.below HA1.out.1)
                  rw [if_neg (by decide), if_pos rfl] at h2
                  go_wp2_with fail
                  refine h2.mono ?_
                  rintro e wb ⟨vy, rfl, hoy, hbb⟩
                  have HB1 := Lib.hid (HA1.out.1.trans (hbb.mono HA1.out.1.size))
                  obtain ⟨sa, sc, hse⟩ := hoy.rd.slice
                  subst hse
                  obtain rfl := HE.out HCV.out
                  have hsm := same_any f.b f.b _ _ wb (HA1.out.2.below hbb) hoy.rd (by have h1 := HTS.out; omega)
                  rw [decide_eq_true (rfl : f.b = f.b), ← HFL.out] at hsm
                  have HSM := Lib.hid hsm
                  rw [← HFL.out]
                  have HB0 := HB1
                  clear hbb hoy z1' h2 HB1 hsm
                  go_wp2_with fail
                  refine HSM.out.mono ?_
                  rintro e wc ⟨rfl, hbc⟩
                  have HB1 := Lib.hid (HB0.out.trans (hbc.mono HB0.out.size))
                  clear hbc HSM
                  go_wp2_with fail
                  go_roundw
                  case rel => exact ⟨j + 1, T + FL, by omega, by go_num, rfl, by rw [if_neg (by rw [← HDD.out]; decide), HT.out.2.1, ← HT0.out, HFL.out], HZ.out.1.below HB1.out, HZ.out.2.1.below HB1.out, HZ.out.2.2.trans (HB1.out.mono HZ.out.2.2.size)⟩
                  case measure => simp [intOf]; omega
end Go.Proofs.Ytclaahailnpdoaa.Pt
