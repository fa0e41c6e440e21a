/-
  Chapter 10: Crash. Printed by gen_plate_crash.py.
-/
import Derived.Test.YthofbblgoamipaaGreatDoorBi
namespace Go.Proofs.YthofbblgoamipaaGreatDoor.Pt
open Go.RowKit Go.Maps
set_option linter.unusedVariables false
set_option linter.unusedSimpArgs false

/-- how many of a file's bytes are kept -/
def kn (f : Fl) (j : Int) : Nat := f.s + min j.toNat (f.b.length - f.s)
def one (f : Fl) (j : Int) : List Fl := if f.b.take (kn f j) = [] then [] else [⟨f.n, f.b.take (kn f j), kn f j⟩]
def cr : List Fl → (Nat → Int) → List Fl
  | [], _ => []
  | f :: r, g => one f (g 0) ++ cr r (fun i => g (i + 1))
theorem cr_append (A B : List Fl) (g : Nat → Int) : cr (A ++ B) g = cr A g ++ cr B (fun i => g (i + A.length)) := by
  induction A generalizing g with
  | nil => rfl
  | cons f r ih =>
    simp only [List.cons_append, cr, List.append_assoc, List.length_cons]
    rw [ih]
    simp only [Nat.add_assoc, Nat.add_comm 1]
theorem cr_take (fs : List Fl) (g : Nat → Int) (k : Nat) (f : Fl) (h : fs[k]? = some f) : cr (fs.take (k + 1)) g = cr (fs.take k) g ++ one f (g k) := by
  have hk : k < fs.length := (List.getElem?_eq_some_iff.1 h).1
  have e : fs[k] = f := (List.getElem?_eq_some_iff.1 h).2
  rw [List.take_succ_eq_append_getElem hk, cr_append, e]
  simp only [cr, List.append_nil, List.length_take]
  rw [Nat.min_eq_left (Nat.le_of_lt hk), Nat.zero_add]
def kg (ks : List Int) (i : Nat) : Int := ks.getD i 0
def crash (st : St) (ks : List Int) : St := { st with fs := cr st.fs (kg ks), armed := false, down := false }
theorem lay_mid (A r : List Fl) (f : Fl) (b : By) (s : Nat) (ha : Asc (A ++ f :: r)) : lay ⟨f.n, b, s⟩ (A ++ f :: r) = A ++ ((if b = [] then [] else [⟨f.n, b, s⟩]) ++ r) := by
  unfold Asc at ha
  rw [List.pairwise_append, List.pairwise_cons] at ha
  obtain ⟨-, ⟨h2, -⟩, h3⟩ := ha
  unfold lay
  by_cases hb : b = []
  · rw [if_pos hb, if_pos hb, List.filter_append, List.filter_cons]
    have e1 : A.filter (fun g => !(g.n == f.n)) = A := List.filter_eq_self.2 fun g hg => by
      simpa using lt_ne (h3 g hg f List.mem_cons_self)
    have e2 : r.filter (fun g => !(g.n == f.n)) = r := List.filter_eq_self.2 fun g hg => by
      have := lt_ne (h2 g hg); simpa using fun e : g.n = f.n => this e.symm
    simp only [e1, e2, beq_self_eq_true, Bool.not_true, Bool.false_eq_true, if_false, List.nil_append]
  · rw [if_neg hb, if_neg hb]
    clear h2
    induction A with
    | nil => simp only [List.nil_append, ins, if_true, List.cons_append]
    | cons g A ih =>
      have hlt := h3 g List.mem_cons_self f List.mem_cons_self
      simp only [List.cons_append, ins]
      rw [if_neg (fun e : f.n = g.n => lt_ne hlt e.symm), if_neg (fun e : f.n ≤ g.n => absurd hlt (List.not_lt.2 e)), ih (fun g hg => h3 g (List.mem_cons_of_mem _ hg))]
      rfl
/-- lay of a file's own beginning: no new block -/
theorem PA.relay2 {W W1 : World} {q m : Nat} {st : St} {sl : By → Value} {x b : By} {s : Nat} {v : Value} (hP : PA W q m st sl) (hb : Below W.heap.size W W1)
    (hx : 1 ≤ x.length ∧ x.length ≤ 64) (hv : FRow W1 5 v b.length (Lib.byteCells b)) (hs : s ≤ b.length) (hbl : b.length ≤ (gB st.fs x).length)
    (hap : ∀ k, v.ownBlock = some k → foot q m st.fs sl k ∧ k ≠ q ∧ k ≠ m ∧ ∀ g ∈ st.fs, g.n ≠ x → (sl g.n).ownBlock ≠ some k) :
    Calls Tryz.prog 41 #[.pointer (some ⟨q, 0, none⟩), .string ⟨x.toArray⟩, fv v s] W1 fun e w' => e = .returned (.tuple #[]) ∧ Out (fun k => k = q ∨ k = m) W1 w' ∧
      ∃ sl', PA w' q m { st with fs := lay ⟨x, b, s⟩ st.fs } sl' ∧ Out (foot q m st.fs sl) W w' ∧ ∀ k, foot q m (lay ⟨x, b, s⟩ st.fs) sl' k → foot q m st.fs sl k := by
  have hp1 := (hP.below hb).px x
  have htot : tot (lay ⟨x, b, s⟩ st.fs) ≤ st.room := by
    have h1 := tot_lay ⟨x, b, s⟩ st.fs hP.fit.asc
    simp only at h1
    have h3 := hP.fit.tot
    omega
  refine (lay_any q m st sl x b s v W1 hp1 hx hv hs htot (fun k hk => (hap k hk).2)).mono ?_
  rintro e w' ⟨rfl, h1, h2⟩
  refine ⟨rfl, h2, _, h1, (Out.of_below (foot q m st.fs sl) hb).trans h2 (fun k _ e => ?_), fun k hk => ?_⟩
  · rcases e with e | e
    · exact Or.inl e
    · exact Or.inr (Or.inl e)
  · rcases foot_lay (N := k + 1) hP.fit.asc (fun k hk => .inl (hap k hk).1) k hk with h | h
    · exact h
    · omega
theorem Fit.up {st : St} (h : Fit st) : Fit { st with armed := false, down := false } := ⟨h.asc, h.room, h.tot, h.file, h.left⟩
set_option maxRecDepth 100000 in
set_option maxHeartbeats 4000000 in
theorem crash_any (q m : Nat) (st : St) (sl : By → Value) (kv : Value) (ks : List Int) (w : World) (h : PA w q m st sl) (hk : Rd w 1 kv ks.length (ks.map (fun j => Value.int .i64 j))) (hkb : 0 < ks.length → ∀ g, kv.ownBlock = some g → g < w.heap.size ∧ ¬ foot q m st.fs sl g) :
    Calls Tryz.prog 25 #[.pointer (some ⟨q, 0, none⟩), kv] w fun e w' => e = .returned (.tuple #[]) ∧ ∃ sl', PA w' q m (crash st ks) sl' ∧ Out (foot q m st.fs sl) w w' ∧ ∀ k, foot q m (crash st ks).fs sl' k → foot q m st.fs sl k := by
  obtain ⟨ka, kc, rfl⟩ := hk.slice
  have HN := Lib.hid (names_any q m st sl w h)
  have HP := Lib.hid h
  have HK := Lib.hid hk
  have HKB := Lib.hid hkb
  clear h hk hkb
  go_enter Tryz.func25, Tryz.ntmps25
  go_wp2_with fail
  refine HN.out.mono ?_
  rintro e w0 ⟨nv, rfl, hn, hb0⟩
  obtain ⟨na, nc, rfl⟩ := hn.rd.slice
  have HNM := Lib.hid hn
  clear hn HN
  go_wp2_with fail
  have HNL : Hid ((names st.fs).length = st.fs.length) := Lib.hid (by unfold names; rw [List.length_map])
  have hnlb : (names st.fs).length ≤ 268435456 := by
    rw [HNL.out]
    have h1 := len_tot st.fs (fun f hf => (HP.out.fit.file f hf).1)
    have h2 := HP.out.fit.tot
    have h3 := HP.out.fit.room
    omega
  have HNB : Hid (∀ g, (Value.slice na (names st.fs).length nc).ownBlock = some g → w.heap.size ≤ g ∧ g < w0.heap.size) := Lib.hid (fun g hg => HNM.out.lt g hg)
  have hrel0 : PA w0 q m { st with fs := cr (st.fs.take 0) (kg ks) ++ st.fs.drop 0 } sl ∧ Out (foot q m st.fs sl) w w0 ∧ (∀ j, foot q m (cr (st.fs.take 0) (kg ks) ++ st.fs.drop 0) sl j → foot q m st.fs sl j) ∧ Rd w0 1 (.slice na (names st.fs).length nc) (names st.fs).length ((names st.fs).map sv) :=
    ⟨HP.out.below hb0, Out.of_below _ hb0, fun j hj => hj, HNM.out.rd⟩
  have HLT : Hid (∀ j, foot q m st.fs sl j → j < w.heap.size) := Lib.hid (fun j hj => HP.out.foot_lt hj)
  have hsz0 := hb0.size
  clear HNM
  go_loopw [13] (fun i wr => ∃ (k : Nat) (sl' : By → Value), k ≤ (names st.fs).length ∧ i = .int .i64 (k : Int) ∧ PA wr q m { st with fs := cr (st.fs.take k) (kg ks) ++ st.fs.drop k } sl' ∧ Out (foot q m st.fs sl) w wr ∧ (∀ j, foot q m (cr (st.fs.take k) (kg ks) ++ st.fs.drop k) sl' j → foot q m st.fs sl j) ∧ Rd wr 1 (.slice na (names st.fs).length nc) (names st.fs).length ((names st.fs).map sv) ∧ w0.heap.size ≤ wr.heap.size) (fun i _ => (names st.fs).length - (intOf i).toNat)
  case atStart => exact ⟨0, sl, Nat.zero_le _, rfl, hrel0.1, hrel0.2.1, hrel0.2.2.1, hrel0.2.2.2, Nat.le_refl _⟩
  case round =>
    clear hrel0
    obtain ⟨k, sl', hk, rfl, hp, ho, hft, hrn, hsz1⟩ := hrel
    by_cases hkn : k < (names st.fs).length
    case neg =>
      have hk' : k = (names st.fs).length := by omega
      subst hk'
      rw [HNL.out, List.take_of_length_le (Nat.le_refl _), List.drop_of_length_le (Nat.le_refl _), List.append_nil] at hp hft
      have c3 := hp.blk.cell 3 rfl
      have c5 := hp.blk.cell 5 rfl
      have f3 := hp.blk.frozen 3
      have f5 := hp.blk.frozen 5
      have ho2 := ((Out.refl (fun k => k = q) wr).set ⟨q, 3, none⟩ (.bool false) rfl).set ⟨q, 5, none⟩ (.bool false) rfl
      have HE : Hid (∃ sl', PA ((wr.setCell ⟨q, 3, none⟩ (.bool false)).setCell ⟨q, 5, none⟩ (.bool false)) q m (crash st ks) sl' ∧ Out (foot q m st.fs sl) w ((wr.setCell ⟨q, 3, none⟩ (.bool false)).setCell ⟨q, 5, none⟩ (.bool false)) ∧ ∀ k, foot q m (crash st ks).fs sl' k → foot q m st.fs sl k) :=
        Lib.hid ⟨sl', hp.head ho2 ((hp.blk.set 3 (.bool false)).set 5 (.bool false)) rfl hp.fit.up, ho.trans ho2 (fun k _ e => Or.inl e), hft⟩
      clear ho2 hp hft ho hrn
      go_wp2_with fail
      refine bodyPost_end (results_none rfl _ _ _) rfl ?_
      exact ⟨rfl, HE.out⟩
    case pos =>
    have hkl : k < st.fs.length := by have := HNL.out; omega
    obtain ⟨f, hf⟩ : ∃ f, st.fs[k]? = some f := ⟨_, List.getElem?_eq_getElem hkl⟩
    have hdr : st.fs.drop k = f :: st.fs.drop (k + 1) := by
      rw [List.drop_eq_getElem_cons hkl]
      rw [(List.getElem?_eq_some_iff.1 hf).2]
    obtain ⟨nb, no, ncap, e1, hncap, hnc⟩ := hrn.pos (by omega)
    cases e1
    have q0 : wr.cell? ⟨nb, no + k, none⟩ = some (.string ⟨f.n.toArray⟩) := hnc k (sv f.n) (by unfold names; rw [List.getElem?_map, List.getElem?_map, hf]; rfl)
    have hfx : f ∈ cr (st.fs.take k) (kg ks) ++ st.fs.drop k := by rw [hdr]; exact List.mem_append_right _ List.mem_cons_self
    have hgm := get_mem hp.fit.asc hfx
    have hff := hp.fit.file f hfx
    obtain ⟨oa, oc, hlk, hrow, hap⟩ := hp.file f.n (by omega)
    have eB : gB (cr (st.fs.take k) (kg ks) ++ st.fs.drop k) f.n = f.b := by unfold gB; rw [hgm]; rfl
    have eS : gS (cr (st.fs.take k) (kg ks) ++ st.fs.drop k) f.n = f.s := by unfold gS; rw [hgm]; rfl
    simp only at hlk hrow hap
    rw [eB] at hlk hrow hap
    rw [eS] at hlk
    have c0 := hp.blk.cell 0 rfl
    have hcap := FRow.le_cap hrow
    have hlay := lay_mid (cr (st.fs.take k) (kg ks)) (st.fs.drop (k + 1)) f (f.b.take (kn f (kg ks k))) (kn f (kg ks k)) (by rw [← hdr]; exact hp.fit.asc)
    rw [← hdr] at hlay
    have hone : (if f.b.take (kn f (kg ks k)) = [] then [] else [(⟨f.n, f.b.take (kn f (kg ks k)), kn f (kg ks k)⟩ : Fl)]) = one f (kg ks k) := rfl
    rw [hone, ← List.append_assoc, ← cr_take st.fs (kg ks) k f hf] at hlay
    have hN : kn f (kg ks k) ≤ f.b.length := by unfold kn; omega
    have HLAY : Hid (∀ W1, Below wr.heap.size wr W1 → Calls Tryz.prog 41 #[.pointer (some ⟨q, 0, none⟩), .string ⟨f.n.toArray⟩, .agg #[.slice oa (kn f (kg ks k)) (kn f (kg ks k)), .int .i64 ((kn f (kg ks k) : Nat) : Int)]] W1 fun e w' => e = .returned (.tuple #[]) ∧ Out (fun k => k = q ∨ k = m) W1 w' ∧
        ∃ sl2, PA w' q m { st with fs := cr (st.fs.take (k + 1)) (kg ks) ++ st.fs.drop (k + 1) } sl2 ∧ Out (foot q m (cr (st.fs.take k) (kg ks) ++ st.fs.drop k) sl') wr w' ∧ ∀ j, foot q m (cr (st.fs.take (k + 1)) (kg ks) ++ st.fs.drop (k + 1)) sl2 j → foot q m (cr (st.fs.take k) (kg ks) ++ st.fs.drop k) sl' j) := Lib.hid (fun W1 hb => by
      have hrow1 := hrow.keep (fun g hg => hb.block g (hrow.lt g hg))
      have hcut := FRow.cut' hrow1 (kn f (kg ks k)) hN (by omega)
      have hcc : (Lib.byteCells f.b).take (kn f (kg ks k)) = Lib.byteCells (f.b.take (kn f (kg ks k))) := by unfold Lib.byteCells; rw [List.map_take]
      have hll : (f.b.take (kn f (kg ks k))).length = kn f (kg ks k) := by rw [List.length_take]; omega
      rw [hcc] at hcut
      have h := hp.relay2 (x := f.n) (b := f.b.take (kn f (kg ks k))) (s := kn f (kg ks k)) (v := .slice oa (kn f (kg ks k)) (kn f (kg ks k))) hb hff.2.2 (by rw [hll]; exact hcut) (by rw [hll]; exact Nat.le_refl _) (by rw [hll]; simp only; rw [eB]; exact hN) (fun k hk => hap k (by rw [← hk]; cases oa <;> rfl))
      simp only [hlay] at h
      exact h)
    have hkk : Rd wr 1 (.slice ka ks.length kc) ks.length (ks.map (fun j => Value.int .i64 j)) := rd_keep0 HK.out (fun h0 g hg => ho.block g (HKB.out h0 g hg).1 (HKB.out h0 g hg).2)
    have HNEXT : Hid (∀ w2 sl2, PA w2 q m { st with fs := cr (st.fs.take (k + 1)) (kg ks) ++ st.fs.drop (k + 1) } sl2 → Out (foot q m (cr (st.fs.take k) (kg ks) ++ st.fs.drop k) sl') wr w2 → (∀ j, foot q m (cr (st.fs.take (k + 1)) (kg ks) ++ st.fs.drop (k + 1)) sl2 j → foot q m (cr (st.fs.take k) (kg ks) ++ st.fs.drop k) sl' j) →
        PA w2 q m { st with fs := cr (st.fs.take (k + 1)) (kg ks) ++ st.fs.drop (k + 1) } sl2 ∧ Out (foot q m st.fs sl) w w2 ∧ (∀ j, foot q m (cr (st.fs.take (k + 1)) (kg ks) ++ st.fs.drop (k + 1)) sl2 j → foot q m st.fs sl j) ∧ Rd w2 1 (.slice (some ⟨nb, no, none⟩) (names st.fs).length nc) (names st.fs).length ((names st.fs).map sv) ∧ w0.heap.size ≤ w2.heap.size) :=
      Lib.hid (fun w2 sl2 h1 h2 h3 => ⟨h1, ho.trans h2 (fun j _ hj => hft j hj), fun j hj => hft j (h3 j hj), rd_keep hrn (fun g hg => h2.block g (by have := (HNB.out g hg).2; omega) (fun hj => by have := HLT.out g (hft g hj); have := (HNB.out g hg).1; omega)), Nat.le_trans hsz1 h2.size⟩)
    have b0 := (Blk.new wr 82 [Value.slice oa f.b.length oc, Value.int IntKind.i64 (f.s : Int)]).cell 0 rfl
    have b1 := (Blk.new wr 82 [Value.slice oa f.b.length oc, Value.int IntKind.i64 (f.s : Int)]).cell 1 rfl
    have hbA : Below wr.heap.size wr (wr.alloc (.cells #[Value.slice oa f.b.length oc, Value.int IntKind.i64 (f.s : Int)] 82)) := (Below.refl wr.heap.size wr).alloc (Nat.le_refl _) _
    obtain ⟨N, hNe⟩ : ∃ N, N = kn f (kg ks k) := ⟨_, rfl⟩
    rw [← hNe] at HLAY hN
    have hNc : N ≤ oc := by omega
    obtain ⟨sv0, hsv⟩ : ∃ s0, s0 = f.s := ⟨_, rfl⟩
    obtain ⟨L, hL⟩ : ∃ L, L = f.b.length := ⟨_, rfl⟩
    rw [← hsv] at hlk b0 b1 hbA
    rw [← hL] at hlk b0 b1 hN hbA
    have HBA := Lib.hid hbA
    have hNE : Hid (N = sv0 + min (kg ks k).toNat (L - sv0)) := Lib.hid (by rw [hNe, hsv, hL]; rfl)
    have HB1 : Hid (L ≤ 268435456 ∧ sv0 ≤ L) := Lib.hid (by
      rw [hsv, hL]
      have h1 := tot_lay ⟨f.n, [], 0⟩ _ hp.fit.asc
      simp only [List.length_nil, Nat.add_zero] at h1
      rw [eB] at h1
      have h2 := hp.fit.room
      have h3 := hp.fit.tot
      have h4 := hff.2.1
      simp only at h2 h3
      omega)
    by_cases hik : k < ks.length
    case neg =>
      have hN0 : N = sv0 := by rw [hNE.out]; unfold kg; rw [List.getD_eq_getElem?_getD, List.getElem?_eq_none (by omega)]; simp
      subst hN0
      clear hnc hfx hgm hff hrow hap eB eS hcap hlay hone hkk hdr hf hp ho hft hrn hbA hNe hsv hL hkl
      go_wp2_with fail
      refine (HLAY.out _ HBA.out).mono ?_
      rintro e w2 ⟨rfl, _, sl2, h1, h2, h3⟩
      have HX := Lib.hid (HNEXT.out w2 sl2 h1 h2 h3)
      clear h1 h2 h3 q0
      go_wp2_with fail
      go_roundw
      case rel => exact ⟨k + 1, sl2, by omega, by simp, HX.out⟩
      case measure => simp [intOf]; omega
    case pos =>
    obtain ⟨j, hj⟩ : ∃ j, ks[k]? = some j := ⟨_, List.getElem?_eq_getElem hik⟩
    have hkgj : kg ks k = j := by unfold kg; rw [List.getD_eq_getElem?_getD, hj]; rfl
    obtain ⟨kb, ko, kcap, e2, hkcap, hkc⟩ := hkk.pos (by omega)
    cases e2
    have q1 := hkc k (.int .i64 j) (by rw [List.getElem?_map, hj]; rfl)
    have q1' : (wr.alloc (.cells #[Value.slice oa L oc, Value.int IntKind.i64 (sv0 : Int)] 82)).cell? ⟨kb, ko + k, none⟩ = some (.int .i64 j) := by
      exact (World.cell?_of_block (a := ⟨kb, ko + k, none⟩) (hbA.block kb (by have := (HKB.out (by omega) kb rfl).1; omega))).trans q1
    generalize hWA : wr.alloc (.cells #[Value.slice oa L oc, Value.int IntKind.i64 (sv0 : Int)] 82) = WA at *
    clear hnc hkc hkk hfx hgm hff hrow hap eB eS hcap hlay hone hdr hf hp ho hft hrn hbA hNe hsv hL hkl q1
    rw [hkgj] at hNE
    obtain ⟨J, hJ⟩ : ∃ J, J = j.toNat := ⟨_, rfl⟩
    obtain ⟨E, hE⟩ : ∃ E, E = L - sv0 := ⟨_, rfl⟩
    obtain ⟨M, hM⟩ : ∃ M, M = min J E := ⟨_, rfl⟩
    have g0 : max j 0 = (J : Int) := by omega
    have g1 : IntKind.i64.wrap ((L : Int) - (sv0 : Int)) = (E : Int) := by have := HB1.out; rw [IntWalk.i64_in _ (by omega)]; omega
    have g2 : min (J : Int) (E : Int) = (M : Int) := by omega
    have g2' : (if E < J then (E : Int) else (J : Int)) = (M : Int) := by split <;> omega
    have hNM : N = sv0 + M := by have := hNE.out; rw [← hJ, ← hE, ← hM] at this; exact this
    have g3 : IntKind.i64.wrap ((sv0 : Int) + (M : Int)) = (N : Int) := by have := HB1.out; rw [IntWalk.i64_in _ (by omega)]; omega
    clear hJ hE hM hNM
    go_wp2_with fail
    refine wp_region_U (S := (fun W => W.cell? ⟨kb, ko + k, none⟩ = some (.int .i64 j) ∧ W.cell? ⟨wr.heap.size, 0, none⟩ = some (.slice oa L oc) ∧ W.cell? ⟨wr.heap.size, 1, none⟩ = some (.int .i64 (sv0 : Int)) ∧ Below wr.heap.size wr W)) (by kernel_rfl) ?_ ?_
    · exact ⟨q1', b0, b1, HBA.out.drew⟩
    refine wpU_take (i := 0) (oi := ?oi1) (v := ?v1) ?hi1 (by kernel_rfl) (by kernel_rfl) (by kernel_rfl) ?hy1 ?rest1
    case hi1 => (simp only [List.getElem?_toArray, List.getElem?_cons_succ, List.getElem?_cons_zero]; rfl)
    case hy1 => (refine Or.inl ⟨by rfl, ?_⟩; intro W hSw; (try dsimp only at hSw); go_simp; (try with_reducible rfl))
    try simp only [Act.put, List.setIfInBounds_toArray, List.set_cons_zero, List.set_cons_succ]
    refine wpU_take (i := 1) (oi := ?oi2) (v := ?v2) ?hi2 (by kernel_rfl) (by kernel_rfl) (by kernel_rfl) ?hy2 ?rest2
    case hi2 => (simp only [List.getElem?_toArray, List.getElem?_cons_succ, List.getElem?_cons_zero]; rfl)
    case hy2 => (refine Or.inl ⟨by rfl, ?_⟩; intro W hSw; (try dsimp only at hSw); go_simp; (try with_reducible rfl))
    try simp only [Act.put, List.setIfInBounds_toArray, List.set_cons_zero, List.set_cons_succ]
    refine wpU_take (i := 2) (oi := ?oi3) (v := ?v3) ?hi3 (by kernel_rfl) (by kernel_rfl) (by kernel_rfl) ?hy3 ?rest3
    case hi3 => (simp only [List.getElem?_toArray, List.getElem?_cons_succ, List.getElem?_cons_zero]; rfl)
    case hy3 => (refine Or.inl ⟨by rfl, ?_⟩; intro W hSw; (try dsimp only at hSw); go_simp; (try with_reducible rfl))
    try simp only [Act.put, List.setIfInBounds_toArray, List.set_cons_zero, List.set_cons_succ]
    refine wpU_take (i := 3) (oi := ?oi4) (v := ?v4) ?hi4 (by kernel_rfl) (by kernel_rfl) (by kernel_rfl) ?hy4 ?rest4
    case hi4 => (simp only [List.getElem?_toArray, List.getElem?_cons_succ, List.getElem?_cons_zero]; rfl)
    case hy4 => (refine Or.inl ⟨by rfl, ?_⟩; intro W hSw; (try dsimp only at hSw); go_simp; (try with_reducible rfl))
    try simp only [Act.put, List.setIfInBounds_toArray, List.set_cons_zero, List.set_cons_succ]
    refine wpU_take (i := 4) (oi := ?oi5) (v := ?v5) ?hi5 (by kernel_rfl) (by kernel_rfl) (by kernel_rfl) ?hy5 ?rest5
    case hi5 => (simp only [List.getElem?_toArray, List.getElem?_cons_succ, List.getElem?_cons_zero]; rfl)
    case hy5 => (refine Or.inl ⟨by rfl, ?_⟩; intro W hSw; (try dsimp only at hSw); go_simp; (try with_reducible rfl))
    try simp only [Act.put, List.setIfInBounds_toArray, List.set_cons_zero, List.set_cons_succ]
    refine wpU_take (i := 5) (oi := ?oi6) (v := ?v6) ?hi6 (by kernel_rfl) (by kernel_rfl) (by kernel_rfl) ?hy6 ?rest6
    case hi6 => (simp only [List.getElem?_toArray, List.getElem?_cons_succ, List.getElem?_cons_zero]; rfl)
    case hy6 => (refine Or.inl ⟨by rfl, ?_⟩; intro W hSw; (try dsimp only at hSw); go_simp; (try with_reducible rfl))
    try simp only [Act.put, List.setIfInBounds_toArray, List.set_cons_zero, List.set_cons_succ]
    refine wpU_take (i := 6) (oi := ?oi7) (v := ?v7) ?hi7 (by kernel_rfl) (by kernel_rfl) (by kernel_rfl) ?hy7 ?rest7
    case hi7 => (simp only [List.getElem?_toArray, List.getElem?_cons_succ, List.getElem?_cons_zero]; rfl)
    case hy7 => (refine Or.inl ⟨by rfl, ?_⟩; intro W hSw; (try dsimp only at hSw); go_simp; (try with_reducible rfl))
    try simp only [Act.put, List.setIfInBounds_toArray, List.set_cons_zero, List.set_cons_succ]
    refine wpU_take (i := 7) (oi := ?oi8) (v := ?v8) ?hi8 (by kernel_rfl) (by kernel_rfl) (by kernel_rfl) ?hy8 ?rest8
    case hi8 => (simp only [List.getElem?_toArray, List.getElem?_cons_succ, List.getElem?_cons_zero]; rfl)
    case hy8 => (refine Or.inl ⟨by rfl, ?_⟩; intro W hSw; (try dsimp only at hSw); go_simp; (try with_reducible rfl))
    try simp only [Act.put, List.setIfInBounds_toArray, List.set_cons_zero, List.set_cons_succ]
    refine wpU_take (i := 8) (oi := ?oi9) (v := ?v9) ?hi9 (by kernel_rfl) (by kernel_rfl) (by kernel_rfl) ?hy9 ?rest9
    case hi9 => (simp only [List.getElem?_toArray, List.getElem?_cons_succ, List.getElem?_cons_zero]; rfl)
    case hy9 => (refine Or.inl ⟨by rfl, ?_⟩; intro W hSw; (try dsimp only at hSw); go_simp; (try with_reducible rfl))
    try simp only [Act.put, List.setIfInBounds_toArray, List.set_cons_zero, List.set_cons_succ]
    refine wpU_take (i := 9) (oi := ?oi10) (v := ?v10) ?hi10 (by kernel_rfl) (by kernel_rfl) (by kernel_rfl) ?hy10 ?rest10
    case hi10 => (simp only [List.getElem?_toArray, List.getElem?_cons_succ, List.getElem?_cons_zero]; rfl)
    case hy10 => (refine Or.inl ⟨by rfl, ?_⟩; intro W hSw; (try dsimp only at hSw); go_simp; (try with_reducible rfl))
    try simp only [Act.put, List.setIfInBounds_toArray, List.set_cons_zero, List.set_cons_succ]
    refine wpU_take (i := 10) (oi := ?oi11) (v := ?v11) ?hi11 (by kernel_rfl) (by kernel_rfl) (by kernel_rfl) ?hy11 ?rest11
    case hi11 => (simp only [List.getElem?_toArray, List.getElem?_cons_succ, List.getElem?_cons_zero]; rfl)
    case hy11 => (refine Or.inl ⟨by rfl, ?_⟩; intro W hSw; (try dsimp only at hSw); go_simp; (try with_reducible rfl))
    try simp only [Act.put, List.setIfInBounds_toArray, List.set_cons_zero, List.set_cons_succ]
    refine wpU_take (i := 11) (oi := ?oi12) (v := ?v12) ?hi12 (by kernel_rfl) (by kernel_rfl) (by kernel_rfl) ?hy12 ?rest12
    case hi12 => (simp only [List.getElem?_toArray, List.getElem?_cons_succ, List.getElem?_cons_zero]; rfl)
    case hy12 => (refine Or.inl ⟨by rfl, ?_⟩; intro W hSw; (try dsimp only at hSw); go_simp; (try with_reducible rfl))
    try simp only [Act.put, List.setIfInBounds_toArray, List.set_cons_zero, List.set_cons_succ]
    refine wpU_take (i := 12) (oi := ?oi13) (v := ?v13) ?hi13 (by kernel_rfl) (by kernel_rfl) (by kernel_rfl) ?hy13 ?rest13
    case hi13 => (simp only [List.getElem?_toArray, List.getElem?_cons_succ, List.getElem?_cons_zero]; rfl)
    case hy13 => (refine Or.inl ⟨by rfl, ?_⟩; intro W hSw; (try dsimp only at hSw); go_simp; (try with_reducible rfl))
    try simp only [Act.put, List.setIfInBounds_toArray, List.set_cons_zero, List.set_cons_succ]
    refine wpU_take (i := 13) (oi := ?oi14) (v := ?v14) ?hi14 (by kernel_rfl) (by kernel_rfl) (by kernel_rfl) ?hy14 ?rest14
    case hi14 => (simp only [List.getElem?_toArray, List.getElem?_cons_succ, List.getElem?_cons_zero]; rfl)
    case hy14 => (refine Or.inl ⟨by rfl, ?_⟩; intro W hSw; (try dsimp only at hSw); go_simp; (try with_reducible rfl))
    try simp only [Act.put, List.setIfInBounds_toArray, List.set_cons_zero, List.set_cons_succ]
    refine wpU_take (i := 14) (oi := ?oi15) (v := ?v15) ?hi15 (by kernel_rfl) (by kernel_rfl) (by kernel_rfl) ?hy15 ?rest15
    case hi15 => (simp only [List.getElem?_toArray, List.getElem?_cons_succ, List.getElem?_cons_zero]; rfl)
    case hy15 => (refine Or.inl ⟨by rfl, ?_⟩; intro W hSw; (try dsimp only at hSw); go_simp; (try with_reducible rfl))
    try simp only [Act.put, List.setIfInBounds_toArray, List.set_cons_zero, List.set_cons_succ]
    refine wpU_done (by kernel_rfl) ?_ _
    intro W hSw
    have d0 := hSw.2.1
    have HBW := Lib.hid hSw.2.2.2
    clear hSw
    go_wp2_with fail
    refine (HLAY.out _ HBW.out).mono ?_
    rintro e w2 ⟨rfl, _, sl2, h1, h2, h3⟩
    have HX := Lib.hid (HNEXT.out w2 sl2 h1 h2 h3)
    clear h1 h2 h3 q0 d0
    go_wp2_with fail
    go_roundw
    case rel => exact ⟨k + 1, sl2, by omega, by simp, HX.out⟩
    case measure => simp [intOf]; omega
end Go.Proofs.YthofbblgoamipaaGreatDoor.Pt
