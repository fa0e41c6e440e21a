/-
  Chapter 10: PlateCrashes' walk. Printed by gen_plate_crashes.py.
-/
import Derived.Test.YtclaahailnpdoaaBv
import Derived.Test.YtclaahailnpdoaaBw
namespace Go.Proofs.Ytclaahailnpdoaa.Pt
open Go.RowKit Go.Maps
set_option linter.unusedVariables false
set_option linter.unusedSimpArgs false

theorem rd_new (W : World) (t : TypeId) (vs : List Value) (n : Nat) (hn : vs.length = n) : Rd (W.alloc (.cells vs.toArray t)) 1 (.slice (some ⟨W.heap.size, 0, none⟩) n n) n vs :=
  ⟨by rw [hn, Nat.mul_one], .inr ⟨W.heap.size, 0, n, rfl, Nat.le_refl _, fun j u hj => by have := cells_new W vs t j u hj; rwa [Addr.add_lit] at this⟩⟩
theorem int_row : (Try.prog.info? 3).map (fun i => (i.zero, i.size, i.bytes)) = some (some (.int .i64 0), 1, 8) := by kernel_rfl
theorem one_nm {f g : Fl} {j : Int} (h : g ∈ one f j) : g.n = f.n := by
  unfold one at h
  split at h
  · cases h
  · rw [List.mem_singleton] at h; rw [h]
theorem cr_mem {fs : List Fl} {k : Nat → Int} {g : Fl} (h : g ∈ cr fs k) : ∃ f ∈ fs, g.n = f.n := by
  induction fs generalizing k with
  | nil => cases h
  | cons f r ih =>
    rw [cr, List.mem_append] at h
    rcases h with h | h
    · exact ⟨f, List.mem_cons_self, one_nm h⟩
    · obtain ⟨f2, h2, h3⟩ := ih h
      exact ⟨f2, List.mem_cons_of_mem _ h2, h3⟩
theorem cr_len2 (fs : List Fl) (k : Nat → Int) : (cr fs k).length ≤ fs.length := by
  induction fs generalizing k with
  | nil => exact Nat.le_refl _
  | cons f r ih =>
    rw [cr, List.length_append, List.length_cons]
    have h1 := ih (fun i => k (i + 1))
    have h2 : (one f (k 0)).length ≤ 1 := by unfold one; split <;> simp
    omega
theorem get_app (A B : List Fl) (x : By) : get (A ++ B) x = (get A x).or (get B x) := by
  unfold get
  rw [List.find?_append]
theorem get_one (f : Fl) (j : Int) : get (one f j) f.n = if f.b.take (kn f j) = [] then none else some ⟨f.n, f.b.take (kn f j), kn f j⟩ := by
  unfold one
  split
  · rfl
  · rw [get_cons, if_pos rfl]
theorem get_one_ne (f : Fl) (j : Int) (x : By) (h : f.n ≠ x) : get (one f j) x = none := by
  rw [get_none]
  intro g hg e
  exact h ((one_nm hg).symm.trans e)
theorem get_cr (fs : List Fl) (k : Nat → Int) (j : Nat) (f : Fl) (ha : Asc fs) (hf : fs[j]? = some f) : get (cr fs k) f.n = if f.b.take (kn f (k j)) = [] then none else some ⟨f.n, f.b.take (kn f (k j)), kn f (k j)⟩ := by
  induction fs generalizing k j with
  | nil => cases hf
  | cons g r ih =>
    unfold Asc at ha
    rw [List.pairwise_cons] at ha
    rw [cr, get_app]
    cases j with
    | zero =>
      simp only [List.getElem?_cons_zero, Option.some.injEq] at hf
      subst hf
      have hno : get (cr r fun i => k (i + 1)) g.n = none := by
        rw [get_none]
        intro x hx e
        obtain ⟨f2, h2, h3⟩ := cr_mem hx
        exact absurd (ha.1 f2 h2) (by rw [← h3, e]; exact List.lt_irrefl _)
      rw [hno, get_one, Option.or_none]
    | succ j =>
      rw [List.getElem?_cons_succ] at hf
      have hne : g.n ≠ f.n := lt_ne (ha.1 f (List.mem_of_getElem? hf))
      rw [get_one_ne g _ _ hne, Option.none_or]
      exact ih (fun i => k (i + 1)) j ha.2 hf
theorem kn_le2 (f : Fl) (j : Int) (h : f.s ≤ f.b.length) : f.s ≤ kn f j ∧ kn f j ≤ f.b.length := by unfold kn; omega
theorem kg_rep (n j : Nat) (c : Int) (h : j < n) : kg (List.replicate n c) j = c := by
  unfold kg
  rw [List.getD_eq_getElem?_getD, List.getElem?_replicate, if_pos h]
  rfl
theorem kn_big (f : Fl) (h : f.b.length ≤ 268435456) (hs : f.s ≤ f.b.length) : kn f 4611686018427387904 = f.b.length := by
  unfold kn
  have : (4611686018427387904 : Int).toNat = 4611686018427387904 := rfl
  rw [this]
  omega
theorem crash_gb {st : St} (hf : Fit st) (ks : List Int) (j : Nat) (f : Fl) (h : st.fs[j]? = some f) : gB (crash st ks).fs f.n = f.b.take (kn f (kg ks j)) ∧ gS (crash st ks).fs f.n = kn f (kg ks j) := by
  have hm := hf.file f (List.mem_of_getElem? h)
  have hk := kn_le2 f (kg ks j) hm.2.1
  have hg := get_cr st.fs (kg ks) j f hf.asc h
  unfold gB gS crash
  simp only
  rw [hg]
  by_cases he : f.b.take (kn f (kg ks j)) = []
  · rw [if_pos he, he]
    refine ⟨rfl, ?_⟩
    have hl : (f.b.take (kn f (kg ks j))).length = 0 := by rw [he]; rfl
    rw [List.length_take] at hl
    have : f.b.length ≠ 0 := fun e => hm.1 (List.eq_nil_of_length_eq_zero e)
    show 0 = _
    omega
  · rw [if_neg he]
    exact ⟨rfl, rfl⟩
theorem crash_told {st : St} (hf : Fit st) (ks : List Int) (NM j : Nat) (f : Fl) (h : st.fs[j]? = some f) (hn : NM = st.fs.length) :
    gB (crash st ks).fs f.n = f.b.take (kn f (kg ks j)) ∧ gS (crash st ks).fs f.n = kn f (kg ks j) ∧ gB (crash st (List.replicate NM 4611686018427387904)).fs f.n = f.b := by
  have h1 := crash_gb hf ks j f h
  have h2 := crash_gb hf (List.replicate NM 4611686018427387904) j f h
  have hj : j < NM := by rw [hn]; exact (List.getElem?_eq_some_iff.1 h).1
  have hm := hf.file f (List.mem_of_getElem? h)
  have hl : f.b.length ≤ 268435456 := by
    have h1 := tot_take_succ h
    have h2 := tot_take_le st.fs (j + 1)
    have h3 := hf.tot
    have h4 := hf.room
    omega
  rw [kg_rep NM j _ hj, kn_big f hl hm.2.1, List.take_length] at h2
  exact ⟨h1.1, h1.2, h2.1⟩
def ic (l : List Int) : List Value := l.map fun j => Value.int .i64 j
set_option maxRecDepth 100000 in
set_option maxHeartbeats 4000000 in
theorem _root_.Go.Proofs.Ytclaahailnpdoaa.plateCrashes_walk (v kv : Value) (l : List Sp) (vb vk : Nat → Value) (ks : List Int) (w : World) (h : SpsAt w.heap.size w v l vb vk) (hl : l.length ≤ 4611686018427387904)
    (hks : Rd w 1 kv ks.length (ic ks)) (hkb : 0 < ks.length → ∀ g, kv.ownBlock = some g → g < w.heap.size) :
    Calls Try.prog 5 #[v, kv] w fun e w' => e = .returned (.bool true) ∧ Below w.heap.size w w' := by
  obtain ⟨a, c, rfl⟩ := h.shp
  obtain ⟨kva, kvc, rfl⟩ := hks.slice
  have H := Lib.hid h
  have HK := Lib.hid (And.intro hks hkb)
  clear h hks hkb
  go_enter Try.func5, Try.ntmps5
  go_wp2_with fail
  refine (new_any 100000 (fun _ => .slice none 0 0) w (by decide)).mono ?_
  rintro e w1 ⟨q, m, rfl, hp1, hb1, hq, hm⟩
  have hP1 : PO w.heap.size w w1 q m (newS 100000) := ⟨hb1, hb1.size, _, hp1, fun k hk => by
    rcases hk with rfl | rfl | ⟨f, hf, _⟩
    · exact hq
    · exact hm
    · cases hf⟩
  obtain ⟨st0, hst0⟩ : ∃ st0 : St, st0 = newS 100000 := ⟨_, rfl⟩
  rw [← hst0] at hP1
  clear hp1 hb1 hq hm hst0
  go_wp2_with fail
  go_loopw [7] (fun i wr => ∃ (k : Nat) (st : St), k ≤ l.length ∧ i = .int .i64 (k : Int) ∧ PO w.heap.size w wr q m st) (fun i _ => l.length - (intOf i).toNat)
  case atStart => exact ⟨0, st0, Nat.zero_le _, rfl, hP1⟩
  case round =>
    clear hP1
    obtain ⟨k, st, hk, rfl, hP⟩ := hrel
    by_cases hkn : k < l.length
    case neg =>
      have t1 : ¬ (k : Int) < (l.length : Int) := by omega
      obtain ⟨hbw, hbs, sl, hpa, hfb⟩ := hP
      have HB0 := Lib.hid hbw
      have HPA := Lib.hid (And.intro hpa hfb)
      have HCOPY := copy_any q m st sl wr hpa
      clear hbw hbs hpa hfb
      go_wp2_with fail
      refine HCOPY.mono ?_
      rintro e W2 ⟨q2, m2, sl2, rfl, hp2, hb2, hf2⟩
      have hd2 : Duet w.heap.size W2 q m q2 m2 st st sl sl2 := ⟨HPA.out.1.below hb2, hp2, fun k hk hf => by have h1 := HPA.out.1.foot_lt hk; have h2 := hf2 k hf; omega, HPA.out.2, fun k hk => by have h1 := hf2 k hk; have h2 := HB0.out.size; omega, by have h1 := HB0.out.size; have h2 := hb2.size; omega⟩
      have H2 := Lib.hid (And.intro hd2 (HB0.out.trans (hb2.mono HB0.out.size)))
      clear HCOPY hp2 hb2 hf2 hd2 HB0
      go_wp2_with fail
      have hbA : Below W2.heap.size W2 (W2.alloc (.cells #[.int .i64 4611686018427387904, .int .i64 4611686018427387904] 3)) := (Below.refl _ _).alloc (Nat.le_refl _) _
      have hr2 := rd_new W2 3 (ic [4611686018427387904, 4611686018427387904]) 2 rfl
      have hd2a := H2.out.1.below hbA
      have HC2 := Lib.hid (crash_any q2 m2 st sl2 _ [4611686018427387904, 4611686018427387904] _ hd2a.pq hr2 (fun _ g hg => by
        have e : W2.heap.size = g := (by simpa [Value.ownBlock] using hg)
        exact ⟨by subst e; simp, fun hf => by have h1 := H2.out.1.pq.foot_lt hf; omega⟩))
      have HD2 := Lib.hid (And.intro hd2a (H2.out.2.trans (hbA.mono H2.out.2.size)))
      clear hbA hr2 hd2a H2
      refine HC2.out.mono ?_
      rintro e W3 ⟨rfl, sl3, hp3, ho3, hn3⟩
      have hc3 := HD2.out.1.swap.call hp3 ho3 (fun k hk => .inl (hn3 k hk))
      have HP3 := Lib.hid (And.intro hc3.1.pq (And.intro hc3.1.bq (HD2.out.2.trans hc3.2)))
      clear hp3 ho3 hn3 hc3 HC2 HD2 HPA
      go_wp2_with fail
      have hbS : Below W3.heap.size W3 (W3.alloc (.cells #[] 3)) := (Below.refl _ _).alloc (Nat.le_refl _) _
      have hown0 := own_fresh W3 3 1
      have hszS : (W3.alloc (.cells #[] 3)).heap.size = W3.heap.size + 1 := by simp
      refine (names_any q m st sl _ (HP3.out.1.below hbS)).mono ?_
      rintro e W4 ⟨nv, rfl, hn4, hb4⟩
      obtain ⟨na, nc, hne⟩ := hn4.rd.slice
      subst hne
      have hrn := hn4.rd
      have hNB : ∀ g, Value.ownBlock (.slice na (names st.fs).length nc) = some g → W3.heap.size + 1 ≤ g ∧ g < W4.heap.size := fun g hg => by have h1 := hn4.lt g hg; omega
      obtain ⟨NM, hNM⟩ : ∃ NM, NM = st.fs.length := ⟨_, rfl⟩
      have hNN : (names st.fs).length = NM := by rw [hNM]; unfold names; rw [List.length_map]
      rw [hNN] at hrn hNB ⊢
      have hsf := hown0.kept (grown_of_below hb4) (Classical.em _)
      have hb40 := hbS.trans (hb4.mono (by omega))
      have HW4 : Hid (W3.heap.size + 1 ≤ W4.heap.size) := Lib.hid (by have := hb4.size; omega)
      have HNM := Lib.hid hNM
      have HNB := Lib.hid hNB
      have hLM : NM ≤ 268435456 := by
        have h1 := len_tot st.fs (fun f hf => (HP3.out.1.fit.file f hf).1)
        have h2 := HP3.out.1.fit.tot
        have h3 := HP3.out.1.fit.room
        rw [hNM]; omega
      have hs4 : W4.heap.size ≤ W4.heap.size := Nat.le_refl _
      clear hbS hown0 hszS hn4 hNB hNN hNM hb4
      go_wp2_with fail
      go_loopw [9, 11] (fun sf i wr' => ∃ (j : Nat) (sr : Value), j ≤ NM ∧ i = .int .i64 (j : Int) ∧ sf = sr ∧ wr'.ownsRow W3.heap.size 3 1 sr j (ic ((st.fs.take j).map fun f => (f.s : Int))) ∧ (∀ g, Value.ownBlock (.slice na NM nc) = some g → sr.ownBlock ≠ some g) ∧ Rd wr' 1 (.slice na NM nc) NM ((names st.fs).map sv) ∧ Below W3.heap.size W3 wr' ∧ W4.heap.size ≤ wr'.heap.size) (fun _ i _ => NM - (intOf i).toNat)
      case atStart => exact ⟨0, _, Nat.zero_le _, rfl, rfl, hsf, fun g hg e => by have h1 := (HNB.out g hg).1; have h2 : W3.heap.size = g := (by simpa [Value.ownBlock] using e); omega, hrn, hb40, hs4⟩
      case round =>
        clear hsf hrn hb40 hs4
        obtain ⟨j, sr, hj, rfl, hsr, hsf, hse, hrn, hbz, hsz⟩ := hrel
        obtain rfl := hsr.symm
        by_cases hjn : j < NM
        case neg =>
          have hj' : ¬ (j : Int) < (NM : Int) := by omega
          obtain rfl : NM = j := by omega
          rw [HNM.out, List.take_length, ← HNM.out] at hsf
          have hrs := Rd.of_own hsf
          have hsl := fun g hg => hsf.lt g hg
          obtain ⟨sa, sc, hsr2⟩ := hrs.slice
          subst hsr2
          have hpa5 := HP3.out.1.below hbz
          have HR5 := Lib.hid (And.intro hrn hrs)
          have HSL := Lib.hid hsl
          have HB5 := Lib.hid (HP3.out.2.2.trans (hbz.mono HP3.out.2.2.size))
          have HWR : Hid (W3.heap.size ≤ wr.heap.size ∧ ∀ g, Value.ownBlock (.slice na NM nc) = some g → g < wr.heap.size) := Lib.hid ⟨hbz.size, fun g hg => by have := (HNB.out g hg).2; omega⟩
          have HPF : Hid (∀ k, foot q m st.fs sl k → k < W3.heap.size) := Lib.hid (fun k hk => HP3.out.1.foot_lt hk)
          have HCP := copy_any q m st sl wr hpa5
          have HP5 := Lib.hid hpa5
          clear hsf hse hrn hbz hsz hrs hsl hpa5
          go_wp2_with fail
          refine HCP.mono ?_
          rintro e W5 ⟨q3, m3, sl5, rfl, hp5, hb5, hf5⟩
          have hd5 : Duet w.heap.size W5 q m q3 m3 st st sl sl5 := ⟨HP5.out.below hb5, hp5, fun k hk hf => by have h1 := HP5.out.foot_lt hk; have h2 := hf5 k hf; omega, HP3.out.2.1, fun k hk => by have h1 := hf5 k hk; have h2 := HB5.out.size; omega, by have h1 := HB5.out.size; have h2 := hb5.size; omega⟩
          have H5 := Lib.hid (And.intro hd5 (And.intro (HB5.out.trans (hb5.mono HB5.out.size)) (And.intro (HR5.out.1.below hb5) (And.intro (HR5.out.2.below hb5) (And.intro hf5 hb5.size)))))
          have hown0 := own_fresh W5 3 1
          have hb0 : Below W5.heap.size W5 (W5.alloc (.cells #[] 3)) := (Below.refl _ _).alloc (Nat.le_refl _) _
          clear HCP hp5 hb5 hf5 hd5 HP5 HB5 HR5
          go_wp2_with fail
          go_loopw [13, 14] (fun sf i wr' => ∃ (j : Nat) (mr : Value), j ≤ NM ∧ i = .int .i64 (j : Int) ∧ sf = mr ∧ wr'.ownsRow W5.heap.size 3 1 mr j (ic (List.replicate j 4611686018427387904)) ∧ Below W5.heap.size W5 wr') (fun _ i _ => NM - (intOf i).toNat)
          case atStart => exact ⟨0, _, Nat.zero_le _, rfl, rfl, hown0, hb0⟩
          case round =>
            clear hown0 hb0
            obtain ⟨j, mr, hj2, rfl, hmr, hmo, hbm⟩ := hrel
            obtain rfl := hmr.symm
            by_cases hjm : j < NM
            case pos =>
              have t6 : (j : Int) < (NM : Int) := by omega
              have hrx := rd_new wr 3 [.int .i64 4611686018427387904] 1 rfl
              obtain ⟨i0, hi, hz0, hz1, hz2⟩ := info_parts int_row
              have hs3 := hbm.size
              have hsz2 : wr.heap.size < (wr.alloc (.cells #[.int .i64 4611686018427387904] 3)).heap.size := by simp
              go_wp2_with (first | (at_builtin; refine wpList_app (by rfl) _ _ 34 rfl 3 W5.heap.size i0 (.int .i64 0) 1 8 Try.underlying34 hi hz0 hz1 hz2 rfl (by decide) mr j _ (by rfl) (hmo.alloc _) (.slice (some ⟨wr.heap.size, 0, none⟩) 1 1) 1 [.int .i64 4611686018427387904] (by rfl) hrx (by simp [Value.oneCell']) (by unfold maxLen; omega) (by omega) (by simp; omega) ?_; intro v' w3 hown' hg3 hob3; go_frame) | go_in)
              have hown2 := own_cast hown' rfl (show ic (List.replicate j 4611686018427387904) ++ [.int .i64 4611686018427387904] = ic (List.replicate (j + 1) 4611686018427387904) from by rw [List.replicate_succ']; simp [ic])
              have hb3 := (hbm.alloc hs3 (.cells #[.int .i64 4611686018427387904] 3)).grown hg3 (by omega) (fun g hg => (hmo.lt g hg).1)
              have HR := Lib.hid (And.intro hown2 hb3)
              clear hown' hg3 hob3 hown2 hb3 hmo hbm hrx
              go_roundw
              case rel => exact ⟨j + 1, v', by omega, by go_num, rfl, HR.out⟩
              case measure => simp [intOf]; omega
            case neg =>
              have t6 : ¬ (j : Int) < (NM : Int) := by omega
              obtain rfl : NM = j := by omega
              have hrm := Rd.of_own hmo
              obtain ⟨ma, mc, hmr2⟩ := hrm.slice
              subst hmr2
              have hd6 := H5.out.1.below hbm
              have hlr : (List.replicate NM (4611686018427387904 : Int)).length = NM := List.length_replicate
              have HC6 := Lib.hid (crash_any q3 m3 st sl5 (.slice ma NM mc) (List.replicate NM 4611686018427387904) wr hd6.pq (by rw [hlr]; exact hrm) (fun _ g hg => ⟨(hmo.lt g hg).2, fun hf => by have h1 := (hmo.lt g hg).1; have h2 := H5.out.1.pq.foot_lt hf; omega⟩))
              have HD6 := Lib.hid (And.intro hd6 (And.intro (H5.out.2.1.trans (hbm.mono H5.out.2.1.size)) (And.intro (H5.out.2.2.1.below hbm) (And.intro (H5.out.2.2.2.1.below hbm) hbm.size))))
              clear hmo hbm hrm hd6 hlr
              go_wp2_with fail
              refine HC6.out.mono ?_
              rintro e W6 ⟨rfl, sl6, hp6, ho6, hn6⟩
              have hc6 := HD6.out.1.swap.call hp6 ho6 (fun k hk => .inl (hn6 k hk))
              have hn6' := rd_keep HD6.out.2.2.1 (W' := W6) (fun g hg => ho6.block g (by have h1 := HWR.out.2 g hg; have h2 := H5.out.2.2.2.2.2; have h3 := HD6.out.2.2.2.2; omega) (fun hf => by have h1 := H5.out.2.2.2.2.1 g hf; have h2 := HWR.out.2 g hg; omega))
              have hs6' := rd_keep HD6.out.2.2.2.1 (W' := W6) (fun g hg => ho6.block g (by have h1 := (HSL.out g hg).2; have h2 := H5.out.2.2.2.2.2; have h3 := HD6.out.2.2.2.2; omega) (fun hf => by have h1 := H5.out.2.2.2.2.1 g hf; have h2 := (HSL.out g hg).2; omega))
              have H6 := Lib.hid (And.intro hc6.1.swap (And.intro (HD6.out.2.1.trans hc6.2) (And.intro hn6' (And.intro hs6' (show wr.heap.size ≤ W6.heap.size from ho6.size)))))
              clear hp6 ho6 hn6 hc6 hn6' hs6' HC6
              have HC7 := Lib.hid (crash_any q m st sl (.slice kva ks.length kvc) ks W6 H6.out.1.pp (HK.out.1.below H6.out.2.1) (fun h0 g hg => ⟨by have h1 := HK.out.2 h0 g hg; have h2 := H6.out.2.1.size; omega, fun hf => by have h1 := HK.out.2 h0 g hg; have h2 := HP3.out.2.1 g hf; omega⟩))
              go_wp2_with fail
              refine HC7.out.mono ?_
              rintro e W7 ⟨rfl, sl7, hp7, ho7, hn7⟩
              have hc7 := H6.out.1.call hp7 ho7 (fun k hk => .inl (hn7 k hk))
              have hn7' := rd_keep H6.out.2.2.1 (W' := W7) (fun g hg => ho7.block g (by have h1 := HWR.out.2 g hg; have h2 := H5.out.2.2.2.2.2; have h3 := HD6.out.2.2.2.2; have h4 := H6.out.2.2.2.2; omega) (fun hf => by have h1 := HPF.out g hf; have h2 := (HNB.out g hg).1; omega))
              have hs7' := rd_keep H6.out.2.2.2.1 (W' := W7) (fun g hg => ho7.block g (by have h1 := (HSL.out g hg).2; have h2 := H5.out.2.2.2.2.2; have h3 := HD6.out.2.2.2.2; have h4 := H6.out.2.2.2.2; omega) (fun hf => by have h1 := HPF.out g hf; have h2 := (HSL.out g hg).1; omega))
              have H7 := Lib.hid (And.intro hc7.1 (And.intro (H6.out.2.1.trans hc7.2) (And.intro hn7' hs7')))
              have HPT : Hid (∀ (j : Nat) (f : Fl), st.fs[j]? = some f → gB (crash st ks).fs f.n = f.b.take (kn f (kg ks j)) ∧ gS (crash st ks).fs f.n = kn f (kg ks j) ∧ gB (crash st (List.replicate NM 4611686018427387904)).fs f.n = f.b) := Lib.hid (fun j f hf => crash_told HP3.out.1.fit ks NM j f hf HNM.out)
              have HCL : Hid ((crash st ks).fs.length ≤ NM) := Lib.hid (by rw [HNM.out]; exact cr_len2 _ _)
              have HFT := Lib.hid HP3.out.1.fit
              obtain ⟨s7, hs7⟩ : ∃ s7, s7 = crash st ks := ⟨_, rfl⟩
              obtain ⟨s8, hs8⟩ : ∃ s8, s8 = crash st (List.replicate NM 4611686018427387904) := ⟨_, rfl⟩
              have HDN : Hid (s7.down = false ∧ s8.down = false) := Lib.hid ⟨by rw [hs7]; rfl, by rw [hs8]; rfl⟩
              rw [← hs7] at H7 HPT HCL
              rw [← hs8] at H7 HPT
              clear hp7 ho7 hn7 hc7 hn7' hs7' HC7 H6 HD6 H5 hs7 hs8 HP3 HSL HWR HPF HNB HW4
              go_wp2_with fail
              refine (known_any _).mono ?_
              rintro e W8 ⟨rfl, hb8⟩
              have hd8 := H7.out.1.below hb8
              have hb8' := H7.out.2.1.trans (hb8.mono H7.out.2.1.size)
              have hn8 := H7.out.2.2.1.below hb8
              have hs8 := H7.out.2.2.2.below hb8
              have HDW := down_any q m s7 sl7 W8 hd8.pp
              rw [HDN.out.1] at HDW
              clear hb8 H7
              go_wp2_with fail
              refine HDW.mono ?_
              rintro e W9 ⟨rfl, hw9⟩
              obtain rfl := hw9.symm
              clear HDW
              go_wp2_with fail
              go_loopw [15] (fun i wr' => ∃ j : Nat, j ≤ NM ∧ i = .int .i64 (j : Int) ∧ Duet w.heap.size wr' q m q3 m3 s7 s8 sl7 sl6 ∧ Rd wr' 1 (.slice na NM nc) NM ((names st.fs).map Pt.sv) ∧ Rd wr' 1 (.slice sa NM sc) NM (ic (st.fs.map fun f => (f.s : Int))) ∧ Below w.heap.size w wr') (fun i _ => NM - (intOf i).toNat)
              case atStart => exact ⟨0, Nat.zero_le _, rfl, hd8, hn8, hs8, hb8'⟩
              case round =>
                clear hd8 hb8' hn8 hs8
                obtain ⟨j, hj3, rfl, hdz, hnz, hsz, hbz⟩ := hrel
                by_cases hjn3 : j < NM
                case neg =>
                  have t7 : ¬ (j : Int) < (NM : Int) := by omega
                  have HNP := names_any q m s7 sl7 wr hdz.pp
                  have HBZ := Lib.hid hbz
                  clear hdz hnz hsz hbz
                  go_wp2_with fail
                  refine HNP.mono ?_
                  rintro e Wa ⟨v1, rfl, hn1, hba⟩
                  obtain ⟨xa, xc, hne⟩ := hn1.rd.slice
                  subst hne
                  have t8 : (names s7.fs).length ≤ NM := by unfold names; rw [List.length_map]; exact HCL.out
                  have t9 : ((names s7.fs).length : Int) ≤ (NM : Int) := by omega
                  have HE := Lib.hid (HBZ.out.trans (hba.mono HBZ.out.size))
                  obtain ⟨L7, hL7⟩ : ∃ L7, L7 = (names s7.fs).length := ⟨_, rfl⟩
                  rw [← hL7] at t8 t9 ⊢
                  clear hn1 hba HNP hL7
                  go_wp2_with fail
                  go_ret
                  exact ⟨rfl, HE.out⟩
                case pos =>
                  have t7 : (j : Int) < (NM : Int) := by omega
                  obtain ⟨f, hf⟩ : ∃ f, st.fs[j]? = some f := ⟨_, List.getElem?_eq_getElem (by have := HNM.out; omega)⟩
                  have hff := HFT.out.file f (List.mem_of_getElem? hf)
                  obtain ⟨hg1, hg2, hg3⟩ := HPT.out j f hf
                  have hkn := kn_le2 f (kg ks j) hff.2.1
                  have hfl : f.b.length ≤ 268435456 := by
                    have h1 := tot_take_succ hf
                    have h2 := tot_take_le st.fs (j + 1)
                    have h3 := HFT.out.tot
                    have h4 := HFT.out.room
                    omega
                  have hnm : ((names st.fs).map Pt.sv)[j]? = some (.string ⟨f.n.toArray⟩) := by unfold names; rw [List.getElem?_map, List.getElem?_map, hf]; rfl
                  have hsm : (ic (st.fs.map fun f => (f.s : Int)))[j]? = some (.int .i64 (f.s : Int)) := by unfold ic; rw [List.getElem?_map, List.getElem?_map, hf]; rfl
                  have hak : askedC false f.n = 0 := by unfold askedC; rw [if_neg (by omega)]; rfl
                  obtain ⟨K, hK⟩ : ∃ K, K = kn f (kg ks j) := ⟨_, rfl⟩
                  have hkz : ks.length ≤ j → K = f.s := fun h => by
                    have e : kg ks j = 0 := by unfold kg; rw [List.getD_eq_getElem?_getD, List.getElem?_eq_none h]; rfl
                    rw [hK, e]; unfold kn; simp
                  rw [← hK] at hg1 hg2 hkn
                  have hXl : (f.b.take K).length = K := by rw [List.length_take]; omega
                  have HR1 : Hid (∀ W, Duet w.heap.size W q m q3 m3 s7 s8 sl7 sl6 → Calls Try.prog 18 #[.pointer (some ⟨q3, 0, none⟩), .string ⟨f.n.toArray⟩] W fun e w' => ∃ v', e = .returned (.tuple #[v', .int .i64 0]) ∧ OwnB w' W.heap.size v' f.b ∧ Below W.heap.size W w') := Lib.hid (fun W hW => by
                    have h := read_any q3 m3 s8 sl6 f.n W hW.pq (by omega)
                    rw [HDN.out.2, hak, if_pos rfl, hg3] at h
                    exact h)
                  have HR2 : Hid (∀ W, Duet w.heap.size W q m q3 m3 s7 s8 sl7 sl6 → Calls Try.prog 18 #[.pointer (some ⟨q, 0, none⟩), .string ⟨f.n.toArray⟩] W fun e w' => ∃ v', e = .returned (.tuple #[v', .int .i64 0]) ∧ OwnB w' W.heap.size v' (f.b.take K) ∧ Below W.heap.size W w') := Lib.hid (fun W hW => by
                    have h := read_any q m s7 sl7 f.n W hW.pp (by omega)
                    rw [HDN.out.1, hak, if_pos rfl, hg1] at h
                    exact h)
                  have HSY : Hid (∀ W, Duet w.heap.size W q m q3 m3 s7 s8 sl7 sl6 → Calls Try.prog 21 #[.pointer (some ⟨q, 0, none⟩), .string ⟨f.n.toArray⟩] W fun e w' => e = .returned (.int .i64 (K : Int)) ∧ w' = W) := Lib.hid (fun W hW => by
                    rw [← hg2]
                    exact synced_any q m s7 sl7 f.n W hW.pp (by omega))
                  have hrx := hnz
                  have hry := hsz
                  obtain ⟨bn, on, cn, e1, hcn, hc1⟩ := hrx.pos (by omega)
                  obtain ⟨bs, os, cs, e2, hcs, hc2⟩ := hry.pos (by omega)
                  cases e1
                  cases e2
                  have z1 := hc1 j _ hnm
                  have z2 := hc2 j _ hsm
                  have HZ := Lib.hid (And.intro hdz (And.intro hnz (And.intro hsz hbz)))
                  have HFC : Hid (∀ W, Below wr.heap.size wr W → W.cell? ⟨bn, on + j, none⟩ = some (.string ⟨f.n.toArray⟩) ∧ W.cell? ⟨bs, os + j, none⟩ = some (.int .i64 (f.s : Int))) := Lib.hid (fun W hW => by
                    obtain ⟨ba', oa', ca', e1, _, hc1⟩ := (HZ.out.2.1.below hW).pos (by omega)
                    obtain ⟨bb', ob', cb', e2, _, hc2⟩ := (HZ.out.2.2.1.below hW).pos (by omega)
                    cases e1
                    cases e2
                    exact ⟨hc1 j _ hnm, hc2 j _ hsm⟩)
                  obtain ⟨FB, hFB⟩ : ∃ FB, FB = f.b.length := ⟨_, rfl⟩
                  obtain ⟨FS, hFS⟩ : ∃ FS, FS = f.s := ⟨_, rfl⟩
                  have hFB0 : 0 < f.b.length := by
                    rcases Nat.eq_zero_or_pos f.b.length with h0 | h0
                    · exact absurd (List.eq_nil_of_length_eq_zero h0) hff.1
                    · exact h0
                  have HFB := Lib.hid (And.intro hFB (And.intro hFB0 (And.intro hXl hkn)))
                  have u1 : ¬ K < FS := by omega
                  have u2 : ¬ FB < K := by omega
                  have u3 : decide (K < FS) = false := decide_eq_false u1
                  have u4 : decide (FB < K) = false := decide_eq_false u2
                  have u5 : K ≤ FB := by omega
                  have u6 : FB ≤ 268435456 := by omega
                  rw [← hFS] at HFC z2 hkz
                  have HKZ := Lib.hid hkz
                  clear hdz hnz hsz hbz hf hff hg1 hg2 hg3 hkn hfl hnm hsm hak hK hkz hXl hrx hry hcn hcs hc1 hc2 hFB hFS hFB0
                  go_wp2_with fail
                  refine (HR1.out wr HZ.out.1).mono ?_
                  rintro e wa ⟨vx, rfl, hox, hba⟩
                  have hxr := hox.rd
                  rw [← HFB.out.1] at hxr
                  obtain ⟨bx, ox, cx, rfl, hcx, hcc⟩ := hxr.pos (by have h1 := HFB.out.1; have h2 := HFB.out.2.1; omega)
                  have HA := Lib.hid (And.intro hba (And.intro hxr hcc))
                  obtain ⟨z1', z2'⟩ := HFC.out wa hba
                  clear hba hox hxr hcc z1 z2
                  go_wp2_with fail
                  refine (HR2.out wa (HZ.out.1.below HA.out.1)).mono ?_
                  rintro e wb ⟨vy, rfl, hoy, hbb⟩
                  have hyr := hoy.rd
                  rw [HFB.out.2.2.1] at hyr
                  obtain ⟨ya, yc, hye⟩ := hyr.slice
                  subst hye
                  have HB := Lib.hid (And.intro (HA.out.1.trans (hbb.mono HA.out.1.size)) (And.intro (HA.out.2.1.below hbb) hyr))
                  obtain ⟨y1, y2⟩ := HFC.out wb HB.out.1
                  have HSX : Hid (Rd wb 1 (.slice (some ⟨bx, ox, none⟩) K cx) K (Lib.byteCells (f.b.take K))) := Lib.hid ⟨by rw [bc_length, HFB.out.2.2.1, Nat.mul_one], .inr ⟨bx, ox, cx, rfl, by omega, fun i u hi => by
                    obtain ⟨b', o', c', e1, _, hc⟩ := HB.out.2.1.pos (by have h1 := HFB.out.1; have h2 := HFB.out.2.1; omega)
                    cases e1
                    refine hc i u ?_
                    unfold Lib.byteCells at hi ⊢
                    rw [List.getElem?_map, List.getElem?_take] at hi
                    rw [List.getElem?_map]
                    split at hi
                    · exact hi
                    · cases hi⟩⟩
                  clear hbb hoy hyr z1' z2'
                  have hsm := same_any (f.b.take K) (f.b.take K) (.slice ya K yc) (.slice (some ⟨bx, ox, none⟩) K cx) wb (by rw [HFB.out.2.2.1]; exact HB.out.2.2) (by rw [HFB.out.2.2.1]; exact HSX.out) (by rw [HFB.out.2.2.1]; omega)
                  rw [decide_eq_true (rfl : f.b.take K = f.b.take K)] at hsm
                  by_cases hks : ks.length ≤ j
                  case pos =>
                    obtain rfl := HKZ.out hks
                    have t8 : (ks.length : Int) ≤ (j : Int) := by omega
                    go_wp2_with fail
                    refine hsm.mono ?_
                    rintro e wc ⟨rfl, hbc⟩
                    have HC := Lib.hid (HB.out.1.trans (hbc.mono HB.out.1.size))
                    obtain ⟨y3, y4⟩ := HFC.out wc HC.out
                    clear hbc hsm y1 y2
                    go_wp2_with fail
                    refine (HSY.out wc (HZ.out.1.below HC.out)).mono ?_
                    rintro e wd ⟨rfl, hwd⟩
                    obtain rfl := hwd.symm
                    go_wp2_with fail
                    go_roundw
                    case rel => exact ⟨j + 1, by omega, by go_num, HZ.out.1.below HC.out, HZ.out.2.1.below HC.out, HZ.out.2.2.1.below HC.out, HZ.out.2.2.2.trans (HC.out.mono HZ.out.2.2.2.size)⟩
                    case measure => simp [intOf]; omega
                  case neg =>
                    have t8 : ¬ (ks.length : Int) ≤ (j : Int) := by omega
                    go_wp2_with fail
                    refine hsm.mono ?_
                    rintro e wc ⟨rfl, hbc⟩
                    have HC := Lib.hid (HB.out.1.trans (hbc.mono HB.out.1.size))
                    obtain ⟨y3, y4⟩ := HFC.out wc HC.out
                    clear hbc hsm y1 y2
                    go_wp2_with fail
                    refine (HSY.out wc (HZ.out.1.below HC.out)).mono ?_
                    rintro e wd ⟨rfl, hwd⟩
                    obtain rfl := hwd.symm
                    go_wp2_with fail
                    go_roundw
                    case rel => exact ⟨j + 1, by omega, by go_num, HZ.out.1.below HC.out, HZ.out.2.1.below HC.out, HZ.out.2.2.1.below HC.out, HZ.out.2.2.2.trans (HC.out.mono HZ.out.2.2.2.size)⟩
                    case measure => simp [intOf]; omega
        case pos =>
          have t5 : (j : Int) < (NM : Int) := by omega
          obtain ⟨f, hf⟩ : ∃ f, st.fs[j]? = some f := ⟨_, List.getElem?_eq_getElem (by have := HNM.out; omega)⟩
          have hfm := List.mem_of_getElem? hf
          have hgm := get_mem HP3.out.1.fit.asc hfm
          have hff := HP3.out.1.fit.file f hfm
          have hnm : ((names st.fs).map Pt.sv)[j]? = some (.string ⟨f.n.toArray⟩) := by unfold names; rw [List.getElem?_map, List.getElem?_map, hf]; rfl
          have hgs : gS st.fs f.n = f.s := by unfold gS; rw [hgm]; rfl
          have hpa := HP3.out.1.below hbz
          have HSY := Lib.hid (fun W hW => synced_any q m st sl f.n W (hpa.below hW) (by omega))
          obtain ⟨bn, on, cn, e1, hcn, hc1⟩ := hrn.pos (by omega)
          cases e1
          have z1 := hc1 j _ hnm
          clear hpa hc1 hcn
          have hsz2 : wr.heap.size < (wr.alloc (.cells #[.int .i64 (f.s : Int)] 3)).heap.size := by simp
          go_wp2_with fail
          refine (HSY.out wr (Below.refl _ _)).mono ?_
          rintro e W5 ⟨rfl, hw5⟩
          obtain rfl := hw5.symm
          rw [hgs]
          obtain ⟨i0, hi, hz0, hz1, hz2⟩ := info_parts int_row
          have hs3 : W3.heap.size ≤ wr.heap.size := by have := HW4.out; omega
          have hrx := rd_new wr 3 [.int .i64 (f.s : Int)] 1 rfl
          go_wp2_with (first | (at_builtin; refine wpList_app (by rfl) _ _ 34 rfl 3 W3.heap.size i0 (.int .i64 0) 1 8 Try.underlying34 hi hz0 hz1 hz2 rfl (by decide) sr j _ (by rfl) (hsf.alloc _) (.slice (some ⟨wr.heap.size, 0, none⟩) 1 1) 1 [.int .i64 (f.s : Int)] (by rfl) hrx (by simp [Value.oneCell']) (by unfold maxLen; omega) (by omega) (by simp; omega) ?_; intro v' w3 hown' hg3 hob3; go_frame) | go_in)
          have hown2 := own_cast hown' rfl (show ic ((st.fs.take j).map fun f => (f.s : Int)) ++ [.int .i64 (f.s : Int)] = ic ((st.fs.take (j + 1)).map fun f => (f.s : Int)) from by rw [List.take_add_one, hf]; simp [ic])
          have hse2 : ∀ g, Value.ownBlock (.slice (some ⟨bn, on, none⟩) NM nc) = some g → v'.ownBlock ≠ some g := fun g hg e => by
            rcases hob3 with h1 | h1
            · exact hse g hg (h1.symm.trans e)
            · rw [h1] at e
              have h2 : (wr.alloc (.cells #[.int .i64 (f.s : Int)] 3)).heap.size = g := Option.some.inj e
              have h3 := (HNB.out g hg).2
              omega
          have hrn2 := rd_keep (rd_keep hrn (W' := wr.alloc (.cells #[.int .i64 (f.s : Int)] 3)) (fun g hg => ((Below.refl wr.heap.size wr).alloc (Nat.le_refl _) _).block g (by have := (HNB.out g hg).2; omega))) (W' := w3) (fun g hg => hg3.block g (by have := (HNB.out g hg).2; omega) (fun e => hse g hg e.symm))
          have hb3 := (hbz.alloc hs3 (.cells #[.int .i64 (f.s : Int)] 3)).grown hg3 (by omega) (fun g hg => (hsf.lt g hg).1)
          have hs5 := hg3.size
          have HR := Lib.hid (And.intro hown2 (And.intro hse2 (And.intro hrn2 (And.intro hb3 (show W4.heap.size ≤ w3.heap.size from by omega)))))
          clear hown' hg3 hob3 hown2 hse2 hrn2 hb3 hs5 hsf hse hrn hbz hsz hrx
          go_roundw
          case rel => exact ⟨j + 1, v', by omega, by go_num, rfl, HR.out⟩
          case measure => simp [intOf]; omega
    case pos =>
    have t1 : (k : Int) < (l.length : Int) := by omega
    by_cases hk1 : (k : Int) < 120
    case neg =>
      obtain ⟨hbw, hbs, sl, hpa, hfb⟩ := hP
      have HB0 := Lib.hid hbw
      have HPA := Lib.hid (And.intro hpa hfb)
      have HCOPY := copy_any q m st sl wr hpa
      clear hbw hbs hpa hfb
      go_wp2_with fail
      refine HCOPY.mono ?_
      rintro e W2 ⟨q2, m2, sl2, rfl, hp2, hb2, hf2⟩
      have hd2 : Duet w.heap.size W2 q m q2 m2 st st sl sl2 := ⟨HPA.out.1.below hb2, hp2, fun k hk hf => by have h1 := HPA.out.1.foot_lt hk; have h2 := hf2 k hf; omega, HPA.out.2, fun k hk => by have h1 := hf2 k hk; have h2 := HB0.out.size; omega, by have h1 := HB0.out.size; have h2 := hb2.size; omega⟩
      have H2 := Lib.hid (And.intro hd2 (HB0.out.trans (hb2.mono HB0.out.size)))
      clear HCOPY hp2 hb2 hf2 hd2 HB0
      go_wp2_with fail
      have hbA : Below W2.heap.size W2 (W2.alloc (.cells #[.int .i64 4611686018427387904, .int .i64 4611686018427387904] 3)) := (Below.refl _ _).alloc (Nat.le_refl _) _
      have hr2 := rd_new W2 3 (ic [4611686018427387904, 4611686018427387904]) 2 rfl
      have hd2a := H2.out.1.below hbA
      have HC2 := Lib.hid (crash_any q2 m2 st sl2 _ [4611686018427387904, 4611686018427387904] _ hd2a.pq hr2 (fun _ g hg => by
        have e : W2.heap.size = g := (by simpa [Value.ownBlock] using hg)
        exact ⟨by subst e; simp, fun hf => by have h1 := H2.out.1.pq.foot_lt hf; omega⟩))
      have HD2 := Lib.hid (And.intro hd2a (H2.out.2.trans (hbA.mono H2.out.2.size)))
      clear hbA hr2 hd2a H2
      refine HC2.out.mono ?_
      rintro e W3 ⟨rfl, sl3, hp3, ho3, hn3⟩
      have hc3 := HD2.out.1.swap.call hp3 ho3 (fun k hk => .inl (hn3 k hk))
      have HP3 := Lib.hid (And.intro hc3.1.pq (And.intro hc3.1.bq (HD2.out.2.trans hc3.2)))
      clear hp3 ho3 hn3 hc3 HC2 HD2 HPA
      go_wp2_with fail
      have hbS : Below W3.heap.size W3 (W3.alloc (.cells #[] 3)) := (Below.refl _ _).alloc (Nat.le_refl _) _
      have hown0 := own_fresh W3 3 1
      have hszS : (W3.alloc (.cells #[] 3)).heap.size = W3.heap.size + 1 := by simp
      refine (names_any q m st sl _ (HP3.out.1.below hbS)).mono ?_
      rintro e W4 ⟨nv, rfl, hn4, hb4⟩
      obtain ⟨na, nc, hne⟩ := hn4.rd.slice
      subst hne
      have hrn := hn4.rd
      have hNB : ∀ g, Value.ownBlock (.slice na (names st.fs).length nc) = some g → W3.heap.size + 1 ≤ g ∧ g < W4.heap.size := fun g hg => by have h1 := hn4.lt g hg; omega
      obtain ⟨NM, hNM⟩ : ∃ NM, NM = st.fs.length := ⟨_, rfl⟩
      have hNN : (names st.fs).length = NM := by rw [hNM]; unfold names; rw [List.length_map]
      rw [hNN] at hrn hNB ⊢
      have hsf := hown0.kept (grown_of_below hb4) (Classical.em _)
      have hb40 := hbS.trans (hb4.mono (by omega))
      have HW4 : Hid (W3.heap.size + 1 ≤ W4.heap.size) := Lib.hid (by have := hb4.size; omega)
      have HNM := Lib.hid hNM
      have HNB := Lib.hid hNB
      have hLM : NM ≤ 268435456 := by
        have h1 := len_tot st.fs (fun f hf => (HP3.out.1.fit.file f hf).1)
        have h2 := HP3.out.1.fit.tot
        have h3 := HP3.out.1.fit.room
        rw [hNM]; omega
      have hs4 : W4.heap.size ≤ W4.heap.size := Nat.le_refl _
      clear hbS hown0 hszS hn4 hNB hNN hNM hb4
      go_wp2_with fail
      go_loopw [9, 11] (fun sf i wr' => ∃ (j : Nat) (sr : Value), j ≤ NM ∧ i = .int .i64 (j : Int) ∧ sf = sr ∧ wr'.ownsRow W3.heap.size 3 1 sr j (ic ((st.fs.take j).map fun f => (f.s : Int))) ∧ (∀ g, Value.ownBlock (.slice na NM nc) = some g → sr.ownBlock ≠ some g) ∧ Rd wr' 1 (.slice na NM nc) NM ((names st.fs).map sv) ∧ Below W3.heap.size W3 wr' ∧ W4.heap.size ≤ wr'.heap.size) (fun _ i _ => NM - (intOf i).toNat)
      case atStart => exact ⟨0, _, Nat.zero_le _, rfl, rfl, hsf, fun g hg e => by have h1 := (HNB.out g hg).1; have h2 : W3.heap.size = g := (by simpa [Value.ownBlock] using e); omega, hrn, hb40, hs4⟩
      case round =>
        clear hsf hrn hb40 hs4
        obtain ⟨j, sr, hj, rfl, hsr, hsf, hse, hrn, hbz, hsz⟩ := hrel
        obtain rfl := hsr.symm
        by_cases hjn : j < NM
        case neg =>
          have hj' : ¬ (j : Int) < (NM : Int) := by omega
          obtain rfl : NM = j := by omega
          rw [HNM.out, List.take_length, ← HNM.out] at hsf
          have hrs := Rd.of_own hsf
          have hsl := fun g hg => hsf.lt g hg
          obtain ⟨sa, sc, hsr2⟩ := hrs.slice
          subst hsr2
          have hpa5 := HP3.out.1.below hbz
          have HR5 := Lib.hid (And.intro hrn hrs)
          have HSL := Lib.hid hsl
          have HB5 := Lib.hid (HP3.out.2.2.trans (hbz.mono HP3.out.2.2.size))
          have HWR : Hid (W3.heap.size ≤ wr.heap.size ∧ ∀ g, Value.ownBlock (.slice na NM nc) = some g → g < wr.heap.size) := Lib.hid ⟨hbz.size, fun g hg => by have := (HNB.out g hg).2; omega⟩
          have HPF : Hid (∀ k, foot q m st.fs sl k → k < W3.heap.size) := Lib.hid (fun k hk => HP3.out.1.foot_lt hk)
          have HCP := copy_any q m st sl wr hpa5
          have HP5 := Lib.hid hpa5
          clear hsf hse hrn hbz hsz hrs hsl hpa5
          go_wp2_with fail
          refine HCP.mono ?_
          rintro e W5 ⟨q3, m3, sl5, rfl, hp5, hb5, hf5⟩
          have hd5 : Duet w.heap.size W5 q m q3 m3 st st sl sl5 := ⟨HP5.out.below hb5, hp5, fun k hk hf => by have h1 := HP5.out.foot_lt hk; have h2 := hf5 k hf; omega, HP3.out.2.1, fun k hk => by have h1 := hf5 k hk; have h2 := HB5.out.size; omega, by have h1 := HB5.out.size; have h2 := hb5.size; omega⟩
          have H5 := Lib.hid (And.intro hd5 (And.intro (HB5.out.trans (hb5.mono HB5.out.size)) (And.intro (HR5.out.1.below hb5) (And.intro (HR5.out.2.below hb5) (And.intro hf5 hb5.size)))))
          have hown0 := own_fresh W5 3 1
          have hb0 : Below W5.heap.size W5 (W5.alloc (.cells #[] 3)) := (Below.refl _ _).alloc (Nat.le_refl _) _
          clear HCP hp5 hb5 hf5 hd5 HP5 HB5 HR5
          go_wp2_with fail
          go_loopw [13, 14] (fun sf i wr' => ∃ (j : Nat) (mr : Value), j ≤ NM ∧ i = .int .i64 (j : Int) ∧ sf = mr ∧ wr'.ownsRow W5.heap.size 3 1 mr j (ic (List.replicate j 4611686018427387904)) ∧ Below W5.heap.size W5 wr') (fun _ i _ => NM - (intOf i).toNat)
          case atStart => exact ⟨0, _, Nat.zero_le _, rfl, rfl, hown0, hb0⟩
          case round =>
            clear hown0 hb0
            obtain ⟨j, mr, hj2, rfl, hmr, hmo, hbm⟩ := hrel
            obtain rfl := hmr.symm
            by_cases hjm : j < NM
            case pos =>
              have t6 : (j : Int) < (NM : Int) := by omega
              have hrx := rd_new wr 3 [.int .i64 4611686018427387904] 1 rfl
              obtain ⟨i0, hi, hz0, hz1, hz2⟩ := info_parts int_row
              have hs3 := hbm.size
              have hsz2 : wr.heap.size < (wr.alloc (.cells #[.int .i64 4611686018427387904] 3)).heap.size := by simp
              go_wp2_with (first | (at_builtin; refine wpList_app (by rfl) _ _ 34 rfl 3 W5.heap.size i0 (.int .i64 0) 1 8 Try.underlying34 hi hz0 hz1 hz2 rfl (by decide) mr j _ (by rfl) (hmo.alloc _) (.slice (some ⟨wr.heap.size, 0, none⟩) 1 1) 1 [.int .i64 4611686018427387904] (by rfl) hrx (by simp [Value.oneCell']) (by unfold maxLen; omega) (by omega) (by simp; omega) ?_; intro v' w3 hown' hg3 hob3; go_frame) | go_in)
              have hown2 := own_cast hown' rfl (show ic (List.replicate j 4611686018427387904) ++ [.int .i64 4611686018427387904] = ic (List.replicate (j + 1) 4611686018427387904) from by rw [List.replicate_succ']; simp [ic])
              have hb3 := (hbm.alloc hs3 (.cells #[.int .i64 4611686018427387904] 3)).grown hg3 (by omega) (fun g hg => (hmo.lt g hg).1)
              have HR := Lib.hid (And.intro hown2 hb3)
              clear hown' hg3 hob3 hown2 hb3 hmo hbm hrx
              go_roundw
              case rel => exact ⟨j + 1, v', by omega, by go_num, rfl, HR.out⟩
              case measure => simp [intOf]; omega
            case neg =>
              have t6 : ¬ (j : Int) < (NM : Int) := by omega
              obtain rfl : NM = j := by omega
              have hrm := Rd.of_own hmo
              obtain ⟨ma, mc, hmr2⟩ := hrm.slice
              subst hmr2
              have hd6 := H5.out.1.below hbm
              have hlr : (List.replicate NM (4611686018427387904 : Int)).length = NM := List.length_replicate
              have HC6 := Lib.hid (crash_any q3 m3 st sl5 (.slice ma NM mc) (List.replicate NM 4611686018427387904) wr hd6.pq (by rw [hlr]; exact hrm) (fun _ g hg => ⟨(hmo.lt g hg).2, fun hf => by have h1 := (hmo.lt g hg).1; have h2 := H5.out.1.pq.foot_lt hf; omega⟩))
              have HD6 := Lib.hid (And.intro hd6 (And.intro (H5.out.2.1.trans (hbm.mono H5.out.2.1.size)) (And.intro (H5.out.2.2.1.below hbm) (And.intro (H5.out.2.2.2.1.below hbm) hbm.size))))
              clear hmo hbm hrm hd6 hlr
              go_wp2_with fail
              refine HC6.out.mono ?_
              rintro e W6 ⟨rfl, sl6, hp6, ho6, hn6⟩
              have hc6 := HD6.out.1.swap.call hp6 ho6 (fun k hk => .inl (hn6 k hk))
              have hn6' := rd_keep HD6.out.2.2.1 (W' := W6) (fun g hg => ho6.block g (by have h1 := HWR.out.2 g hg; have h2 := H5.out.2.2.2.2.2; have h3 := HD6.out.2.2.2.2; omega) (fun hf => by have h1 := H5.out.2.2.2.2.1 g hf; have h2 := HWR.out.2 g hg; omega))
              have hs6' := rd_keep HD6.out.2.2.2.1 (W' := W6) (fun g hg => ho6.block g (by have h1 := (HSL.out g hg).2; have h2 := H5.out.2.2.2.2.2; have h3 := HD6.out.2.2.2.2; omega) (fun hf => by have h1 := H5.out.2.2.2.2.1 g hf; have h2 := (HSL.out g hg).2; omega))
              have H6 := Lib.hid (And.intro hc6.1.swap (And.intro (HD6.out.2.1.trans hc6.2) (And.intro hn6' (And.intro hs6' (show wr.heap.size ≤ W6.heap.size from ho6.size)))))
              clear hp6 ho6 hn6 hc6 hn6' hs6' HC6
              have HC7 := Lib.hid (crash_any q m st sl (.slice kva ks.length kvc) ks W6 H6.out.1.pp (HK.out.1.below H6.out.2.1) (fun h0 g hg => ⟨by have h1 := HK.out.2 h0 g hg; have h2 := H6.out.2.1.size; omega, fun hf => by have h1 := HK.out.2 h0 g hg; have h2 := HP3.out.2.1 g hf; omega⟩))
              go_wp2_with fail
              refine HC7.out.mono ?_
              rintro e W7 ⟨rfl, sl7, hp7, ho7, hn7⟩
              have hc7 := H6.out.1.call hp7 ho7 (fun k hk => .inl (hn7 k hk))
              have hn7' := rd_keep H6.out.2.2.1 (W' := W7) (fun g hg => ho7.block g (by have h1 := HWR.out.2 g hg; have h2 := H5.out.2.2.2.2.2; have h3 := HD6.out.2.2.2.2; have h4 := H6.out.2.2.2.2; omega) (fun hf => by have h1 := HPF.out g hf; have h2 := (HNB.out g hg).1; omega))
              have hs7' := rd_keep H6.out.2.2.2.1 (W' := W7) (fun g hg => ho7.block g (by have h1 := (HSL.out g hg).2; have h2 := H5.out.2.2.2.2.2; have h3 := HD6.out.2.2.2.2; have h4 := H6.out.2.2.2.2; omega) (fun hf => by have h1 := HPF.out g hf; have h2 := (HSL.out g hg).1; omega))
              have H7 := Lib.hid (And.intro hc7.1 (And.intro (H6.out.2.1.trans hc7.2) (And.intro hn7' hs7')))
              have HPT : Hid (∀ (j : Nat) (f : Fl), st.fs[j]? = some f → gB (crash st ks).fs f.n = f.b.take (kn f (kg ks j)) ∧ gS (crash st ks).fs f.n = kn f (kg ks j) ∧ gB (crash st (List.replicate NM 4611686018427387904)).fs f.n = f.b) := Lib.hid (fun j f hf => crash_told HP3.out.1.fit ks NM j f hf HNM.out)
              have HCL : Hid ((crash st ks).fs.length ≤ NM) := Lib.hid (by rw [HNM.out]; exact cr_len2 _ _)
              have HFT := Lib.hid HP3.out.1.fit
              obtain ⟨s7, hs7⟩ : ∃ s7, s7 = crash st ks := ⟨_, rfl⟩
              obtain ⟨s8, hs8⟩ : ∃ s8, s8 = crash st (List.replicate NM 4611686018427387904) := ⟨_, rfl⟩
              have HDN : Hid (s7.down = false ∧ s8.down = false) := Lib.hid ⟨by rw [hs7]; rfl, by rw [hs8]; rfl⟩
              rw [← hs7] at H7 HPT HCL
              rw [← hs8] at H7 HPT
              clear hp7 ho7 hn7 hc7 hn7' hs7' HC7 H6 HD6 H5 hs7 hs8 HP3 HSL HWR HPF HNB HW4
              go_wp2_with fail
              refine (known_any _).mono ?_
              rintro e W8 ⟨rfl, hb8⟩
              have hd8 := H7.out.1.below hb8
              have hb8' := H7.out.2.1.trans (hb8.mono H7.out.2.1.size)
              have hn8 := H7.out.2.2.1.below hb8
              have hs8 := H7.out.2.2.2.below hb8
              have HDW := down_any q m s7 sl7 W8 hd8.pp
              rw [HDN.out.1] at HDW
              clear hb8 H7
              go_wp2_with fail
              refine HDW.mono ?_
              rintro e W9 ⟨rfl, hw9⟩
              obtain rfl := hw9.symm
              clear HDW
              go_wp2_with fail
              go_loopw [15] (fun i wr' => ∃ j : Nat, j ≤ NM ∧ i = .int .i64 (j : Int) ∧ Duet w.heap.size wr' q m q3 m3 s7 s8 sl7 sl6 ∧ Rd wr' 1 (.slice na NM nc) NM ((names st.fs).map Pt.sv) ∧ Rd wr' 1 (.slice sa NM sc) NM (ic (st.fs.map fun f => (f.s : Int))) ∧ Below w.heap.size w wr') (fun i _ => NM - (intOf i).toNat)
              case atStart => exact ⟨0, Nat.zero_le _, rfl, hd8, hn8, hs8, hb8'⟩
              case round =>
                clear hd8 hb8' hn8 hs8
                obtain ⟨j, hj3, rfl, hdz, hnz, hsz, hbz⟩ := hrel
                by_cases hjn3 : j < NM
                case neg =>
                  have t7 : ¬ (j : Int) < (NM : Int) := by omega
                  have HNP := names_any q m s7 sl7 wr hdz.pp
                  have HBZ := Lib.hid hbz
                  clear hdz hnz hsz hbz
                  go_wp2_with fail
                  refine HNP.mono ?_
                  rintro e Wa ⟨v1, rfl, hn1, hba⟩
                  obtain ⟨xa, xc, hne⟩ := hn1.rd.slice
                  subst hne
                  have t8 : (names s7.fs).length ≤ NM := by unfold names; rw [List.length_map]; exact HCL.out
                  have t9 : ((names s7.fs).length : Int) ≤ (NM : Int) := by omega
                  have HE := Lib.hid (HBZ.out.trans (hba.mono HBZ.out.size))
                  obtain ⟨L7, hL7⟩ : ∃ L7, L7 = (names s7.fs).length := ⟨_, rfl⟩
                  rw [← hL7] at t8 t9 ⊢
                  clear hn1 hba HNP hL7
                  go_wp2_with fail
                  go_ret
                  exact ⟨rfl, HE.out⟩
                case pos =>
                  have t7 : (j : Int) < (NM : Int) := by omega
                  obtain ⟨f, hf⟩ : ∃ f, st.fs[j]? = some f := ⟨_, List.getElem?_eq_getElem (by have := HNM.out; omega)⟩
                  have hff := HFT.out.file f (List.mem_of_getElem? hf)
                  obtain ⟨hg1, hg2, hg3⟩ := HPT.out j f hf
                  have hkn := kn_le2 f (kg ks j) hff.2.1
                  have hfl : f.b.length ≤ 268435456 := by
                    have h1 := tot_take_succ hf
                    have h2 := tot_take_le st.fs (j + 1)
                    have h3 := HFT.out.tot
                    have h4 := HFT.out.room
                    omega
                  have hnm : ((names st.fs).map Pt.sv)[j]? = some (.string ⟨f.n.toArray⟩) := by unfold names; rw [List.getElem?_map, List.getElem?_map, hf]; rfl
                  have hsm : (ic (st.fs.map fun f => (f.s : Int)))[j]? = some (.int .i64 (f.s : Int)) := by unfold ic; rw [List.getElem?_map, List.getElem?_map, hf]; rfl
                  have hak : askedC false f.n = 0 := by unfold askedC; rw [if_neg (by omega)]; rfl
                  obtain ⟨K, hK⟩ : ∃ K, K = kn f (kg ks j) := ⟨_, rfl⟩
                  have hkz : ks.length ≤ j → K = f.s := fun h => by
                    have e : kg ks j = 0 := by unfold kg; rw [List.getD_eq_getElem?_getD, List.getElem?_eq_none h]; rfl
                    rw [hK, e]; unfold kn; simp
                  rw [← hK] at hg1 hg2 hkn
                  have hXl : (f.b.take K).length = K := by rw [List.length_take]; omega
                  have HR1 : Hid (∀ W, Duet w.heap.size W q m q3 m3 s7 s8 sl7 sl6 → Calls Try.prog 18 #[.pointer (some ⟨q3, 0, none⟩), .string ⟨f.n.toArray⟩] W fun e w' => ∃ v', e = .returned (.tuple #[v', .int .i64 0]) ∧ OwnB w' W.heap.size v' f.b ∧ Below W.heap.size W w') := Lib.hid (fun W hW => by
                    have h := read_any q3 m3 s8 sl6 f.n W hW.pq (by omega)
                    rw [HDN.out.2, hak, if_pos rfl, hg3] at h
                    exact h)
                  have HR2 : Hid (∀ W, Duet w.heap.size W q m q3 m3 s7 s8 sl7 sl6 → Calls Try.prog 18 #[.pointer (some ⟨q, 0, none⟩), .string ⟨f.n.toArray⟩] W fun e w' => ∃ v', e = .returned (.tuple #[v', .int .i64 0]) ∧ OwnB w' W.heap.size v' (f.b.take K) ∧ Below W.heap.size W w') := Lib.hid (fun W hW => by
                    have h := read_any q m s7 sl7 f.n W hW.pp (by omega)
                    rw [HDN.out.1, hak, if_pos rfl, hg1] at h
                    exact h)
                  have HSY : Hid (∀ W, Duet w.heap.size W q m q3 m3 s7 s8 sl7 sl6 → Calls Try.prog 21 #[.pointer (some ⟨q, 0, none⟩), .string ⟨f.n.toArray⟩] W fun e w' => e = .returned (.int .i64 (K : Int)) ∧ w' = W) := Lib.hid (fun W hW => by
                    rw [← hg2]
                    exact synced_any q m s7 sl7 f.n W hW.pp (by omega))
                  have hrx := hnz
                  have hry := hsz
                  obtain ⟨bn, on, cn, e1, hcn, hc1⟩ := hrx.pos (by omega)
                  obtain ⟨bs, os, cs, e2, hcs, hc2⟩ := hry.pos (by omega)
                  cases e1
                  cases e2
                  have z1 := hc1 j _ hnm
                  have z2 := hc2 j _ hsm
                  have HZ := Lib.hid (And.intro hdz (And.intro hnz (And.intro hsz hbz)))
                  have HFC : Hid (∀ W, Below wr.heap.size wr W → W.cell? ⟨bn, on + j, none⟩ = some (.string ⟨f.n.toArray⟩) ∧ W.cell? ⟨bs, os + j, none⟩ = some (.int .i64 (f.s : Int))) := Lib.hid (fun W hW => by
                    obtain ⟨ba', oa', ca', e1, _, hc1⟩ := (HZ.out.2.1.below hW).pos (by omega)
                    obtain ⟨bb', ob', cb', e2, _, hc2⟩ := (HZ.out.2.2.1.below hW).pos (by omega)
                    cases e1
                    cases e2
                    exact ⟨hc1 j _ hnm, hc2 j _ hsm⟩)
                  obtain ⟨FB, hFB⟩ : ∃ FB, FB = f.b.length := ⟨_, rfl⟩
                  obtain ⟨FS, hFS⟩ : ∃ FS, FS = f.s := ⟨_, rfl⟩
                  have hFB0 : 0 < f.b.length := by
                    rcases Nat.eq_zero_or_pos f.b.length with h0 | h0
                    · exact absurd (List.eq_nil_of_length_eq_zero h0) hff.1
                    · exact h0
                  have HFB := Lib.hid (And.intro hFB (And.intro hFB0 (And.intro hXl hkn)))
                  have u1 : ¬ K < FS := by omega
                  have u2 : ¬ FB < K := by omega
                  have u3 : decide (K < FS) = false := decide_eq_false u1
                  have u4 : decide (FB < K) = false := decide_eq_false u2
                  have u5 : K ≤ FB := by omega
                  have u6 : FB ≤ 268435456 := by omega
                  rw [← hFS] at HFC z2 hkz
                  have HKZ := Lib.hid hkz
                  clear hdz hnz hsz hbz hf hff hg1 hg2 hg3 hkn hfl hnm hsm hak hK hkz hXl hrx hry hcn hcs hc1 hc2 hFB hFS hFB0
                  go_wp2_with fail
                  refine (HR1.out wr HZ.out.1).mono ?_
                  rintro e wa ⟨vx, rfl, hox, hba⟩
                  have hxr := hox.rd
                  rw [← HFB.out.1] at hxr
                  obtain ⟨bx, ox, cx, rfl, hcx, hcc⟩ := hxr.pos (by have h1 := HFB.out.1; have h2 := HFB.out.2.1; omega)
                  have HA := Lib.hid (And.intro hba (And.intro hxr hcc))
                  obtain ⟨z1', z2'⟩ := HFC.out wa hba
                  clear hba hox hxr hcc z1 z2
                  go_wp2_with fail
                  refine (HR2.out wa (HZ.out.1.below HA.out.1)).mono ?_
                  rintro e wb ⟨vy, rfl, hoy, hbb⟩
                  have hyr := hoy.rd
                  rw [HFB.out.2.2.1] at hyr
                  obtain ⟨ya, yc, hye⟩ := hyr.slice
                  subst hye
                  have HB := Lib.hid (And.intro (HA.out.1.trans (hbb.mono HA.out.1.size)) (And.intro (HA.out.2.1.below hbb) hyr))
                  obtain ⟨y1, y2⟩ := HFC.out wb HB.out.1
                  have HSX : Hid (Rd wb 1 (.slice (some ⟨bx, ox, none⟩) K cx) K (Lib.byteCells (f.b.take K))) := Lib.hid ⟨by rw [bc_length, HFB.out.2.2.1, Nat.mul_one], .inr ⟨bx, ox, cx, rfl, by omega, fun i u hi => by
                    obtain ⟨b', o', c', e1, _, hc⟩ := HB.out.2.1.pos (by have h1 := HFB.out.1; have h2 := HFB.out.2.1; omega)
                    cases e1
                    refine hc i u ?_
                    unfold Lib.byteCells at hi ⊢
                    rw [List.getElem?_map, List.getElem?_take] at hi
                    rw [List.getElem?_map]
                    split at hi
                    · exact hi
                    · cases hi⟩⟩
                  clear hbb hoy hyr z1' z2'
                  have hsm := same_any (f.b.take K) (f.b.take K) (.slice ya K yc) (.slice (some ⟨bx, ox, none⟩) K cx) wb (by rw [HFB.out.2.2.1]; exact HB.out.2.2) (by rw [HFB.out.2.2.1]; exact HSX.out) (by rw [HFB.out.2.2.1]; omega)
                  rw [decide_eq_true (rfl : f.b.take K = f.b.take K)] at hsm
                  by_cases hks : ks.length ≤ j
                  case pos =>
                    obtain rfl := HKZ.out hks
                    have t8 : (ks.length : Int) ≤ (j : Int) := by omega
                    go_wp2_with fail
                    refine hsm.mono ?_
                    rintro e wc ⟨rfl, hbc⟩
                    have HC := Lib.hid (HB.out.1.trans (hbc.mono HB.out.1.size))
                    obtain ⟨y3, y4⟩ := HFC.out wc HC.out
                    clear hbc hsm y1 y2
                    go_wp2_with fail
                    refine (HSY.out wc (HZ.out.1.below HC.out)).mono ?_
                    rintro e wd ⟨rfl, hwd⟩
                    obtain rfl := hwd.symm
                    go_wp2_with fail
                    go_roundw
                    case rel => exact ⟨j + 1, by omega, by go_num, HZ.out.1.below HC.out, HZ.out.2.1.below HC.out, HZ.out.2.2.1.below HC.out, HZ.out.2.2.2.trans (HC.out.mono HZ.out.2.2.2.size)⟩
                    case measure => simp [intOf]; omega
                  case neg =>
                    have t8 : ¬ (ks.length : Int) ≤ (j : Int) := by omega
                    go_wp2_with fail
                    refine hsm.mono ?_
                    rintro e wc ⟨rfl, hbc⟩
                    have HC := Lib.hid (HB.out.1.trans (hbc.mono HB.out.1.size))
                    obtain ⟨y3, y4⟩ := HFC.out wc HC.out
                    clear hbc hsm y1 y2
                    go_wp2_with fail
                    refine (HSY.out wc (HZ.out.1.below HC.out)).mono ?_
                    rintro e wd ⟨rfl, hwd⟩
                    obtain rfl := hwd.symm
                    go_wp2_with fail
                    go_roundw
                    case rel => exact ⟨j + 1, by omega, by go_num, HZ.out.1.below HC.out, HZ.out.2.1.below HC.out, HZ.out.2.2.1.below HC.out, HZ.out.2.2.2.trans (HC.out.mono HZ.out.2.2.2.size)⟩
                    case measure => simp [intOf]; omega
        case pos =>
          have t5 : (j : Int) < (NM : Int) := by omega
          obtain ⟨f, hf⟩ : ∃ f, st.fs[j]? = some f := ⟨_, List.getElem?_eq_getElem (by have := HNM.out; omega)⟩
          have hfm := List.mem_of_getElem? hf
          have hgm := get_mem HP3.out.1.fit.asc hfm
          have hff := HP3.out.1.fit.file f hfm
          have hnm : ((names st.fs).map Pt.sv)[j]? = some (.string ⟨f.n.toArray⟩) := by unfold names; rw [List.getElem?_map, List.getElem?_map, hf]; rfl
          have hgs : gS st.fs f.n = f.s := by unfold gS; rw [hgm]; rfl
          have hpa := HP3.out.1.below hbz
          have HSY := Lib.hid (fun W hW => synced_any q m st sl f.n W (hpa.below hW) (by omega))
          obtain ⟨bn, on, cn, e1, hcn, hc1⟩ := hrn.pos (by omega)
          cases e1
          have z1 := hc1 j _ hnm
          clear hpa hc1 hcn
          have hsz2 : wr.heap.size < (wr.alloc (.cells #[.int .i64 (f.s : Int)] 3)).heap.size := by simp
          go_wp2_with fail
          refine (HSY.out wr (Below.refl _ _)).mono ?_
          rintro e W5 ⟨rfl, hw5⟩
          obtain rfl := hw5.symm
          rw [hgs]
          obtain ⟨i0, hi, hz0, hz1, hz2⟩ := info_parts int_row
          have hs3 : W3.heap.size ≤ wr.heap.size := by have := HW4.out; omega
          have hrx := rd_new wr 3 [.int .i64 (f.s : Int)] 1 rfl
          go_wp2_with (first | (at_builtin; refine wpList_app (by rfl) _ _ 34 rfl 3 W3.heap.size i0 (.int .i64 0) 1 8 Try.underlying34 hi hz0 hz1 hz2 rfl (by decide) sr j _ (by rfl) (hsf.alloc _) (.slice (some ⟨wr.heap.size, 0, none⟩) 1 1) 1 [.int .i64 (f.s : Int)] (by rfl) hrx (by simp [Value.oneCell']) (by unfold maxLen; omega) (by omega) (by simp; omega) ?_; intro v' w3 hown' hg3 hob3; go_frame) | go_in)
          have hown2 := own_cast hown' rfl (show ic ((st.fs.take j).map fun f => (f.s : Int)) ++ [.int .i64 (f.s : Int)] = ic ((st.fs.take (j + 1)).map fun f => (f.s : Int)) from by rw [List.take_add_one, hf]; simp [ic])
          have hse2 : ∀ g, Value.ownBlock (.slice (some ⟨bn, on, none⟩) NM nc) = some g → v'.ownBlock ≠ some g := fun g hg e => by
            rcases hob3 with h1 | h1
            · exact hse g hg (h1.symm.trans e)
            · rw [h1] at e
              have h2 : (wr.alloc (.cells #[.int .i64 (f.s : Int)] 3)).heap.size = g := Option.some.inj e
              have h3 := (HNB.out g hg).2
              omega
          have hrn2 := rd_keep (rd_keep hrn (W' := wr.alloc (.cells #[.int .i64 (f.s : Int)] 3)) (fun g hg => ((Below.refl wr.heap.size wr).alloc (Nat.le_refl _) _).block g (by have := (HNB.out g hg).2; omega))) (W' := w3) (fun g hg => hg3.block g (by have := (HNB.out g hg).2; omega) (fun e => hse g hg e.symm))
          have hb3 := (hbz.alloc hs3 (.cells #[.int .i64 (f.s : Int)] 3)).grown hg3 (by omega) (fun g hg => (hsf.lt g hg).1)
          have hs5 := hg3.size
          have HR := Lib.hid (And.intro hown2 (And.intro hse2 (And.intro hrn2 (And.intro hb3 (show W4.heap.size ≤ w3.heap.size from by omega)))))
          clear hown' hg3 hob3 hown2 hse2 hrn2 hb3 hs5 hsf hse hrn hbz hsz hrx
          go_roundw
          case rel => exact ⟨j + 1, v', by omega, by go_num, rfl, HR.out⟩
          case measure => simp [intOf]; omega
    case pos =>
    obtain ⟨hbw, hbs, sl, hpa, hfb⟩ := hP
    obtain ⟨s, hs⟩ : ∃ s, l[k]? = some s := ⟨_, List.getElem?_eq_getElem hkn⟩
    have hbX : Below wr.heap.size wr (wr.alloc (.cells #[.slice none 0 0, .int .i64 0, .bool false, .int .i64 0, .bool false] 31)) := (Below.refl _ _).alloc (Nat.le_refl _) _
    have hbXw := hbw.trans (hbX.mono hbs)
    have hH := H.out.below hbw
    have hH2 := H.out.below hbXw
    obtain ⟨b1, o1, c1, e1, hb1, hc1⟩ := hH.cel (by omega)
    cases e1
    have y0 := hc1 k s hs 0 _ rfl
    have y1 := hc1 k s hs 1 _ rfl
    have y2 := hc1 k s hs 2 _ rfl
    have y3 := hc1 k s hs 3 _ rfl
    have y4 := hc1 k s hs 4 _ rfl
    simp only [Nat.add_zero] at y0
    obtain ⟨b1', o1', c1', e1, hb1', hc1'⟩ := hH2.cel (by omega)
    cases e1
    have x0 := hc1' k s hs 0 _ rfl
    have x1 := hc1' k s hs 1 _ rfl
    have x2 := hc1' k s hs 2 _ rfl
    have x3 := hc1' k s hs 3 _ rfl
    have x4 := hc1' k s hs 4 _ rfl
    simp only [Nat.add_zero] at x0
    have hd0 : Duo w.heap.size (wr.alloc (.cells #[.slice none 0 0, .int .i64 0, .bool false, .int .i64 0, .bool false] 31)) q m wr.heap.size st (newS 0) sl := ⟨hpa.below hbX, ⟨sl, _, _, ref_new wr 0 sl _ ⟨hbs, fun hf => Nat.lt_irrefl _ (hpa.foot_lt hf)⟩ (by decide)⟩, hfb, by have := hbX.size; omega⟩
    have HDO := Lib.hid (do_any w.heap.size q m wr.heap.size st (newS 0) sl s (vb k) (vk k) _ hd0 (hH2.stp k s hs))
    have HBX := Lib.hid hbXw
    clear hbX hbXw hH hH2 hc1 hc1' hd0 hbw hbs hpa hfb hs
    go_wp2_with fail
    refine HDO.out.mono ?_
    rintro e W4 ⟨⟨bb, rfl, _⟩, ⟨sl1, hD4⟩, hb4⟩
    have HP := Lib.hid (show PO w.heap.size w W4 q m (stp st s) from ⟨HBX.out.trans hb4, hD4.bs, sl1, hD4.pa, hD4.fb⟩)
    clear hD4 hb4 HDO HBX x0 x1 x2 x3 x4 y0 y1 y2 y3 y4
    go_wp2_with fail
    go_roundw
    case rel => exact ⟨k + 1, _, by omega, by go_num, HP.out⟩
    case measure => simp [intOf]; omega
end Go.Proofs.Ytclaahailnpdoaa.Pt
