/-
  Chapter 10, the reference: lay. Printed by gen_plate_rlay.py.
-/
import Derived.Test.YtclaahailnpdoaaBm
namespace Go.Proofs.Ytclaahailnpdoaa.Pt
open Go.RowKit Go.Maps
set_option linter.unusedVariables false
set_option linter.unusedSimpArgs false

/-- what the loop lays from here on -/
def gl (f : Fl) : Bool → List Fl → List Fl
  | put, [] => if put = true then [] else [f]
  | put, g :: r => (if put = false ∧ f.n ≤ g.n then [f] else []) ++ ((if g.n = f.n then [] else [g]) ++ gl f (put || decide (f.n ≤ g.n)) r)
theorem gl_cons (f : Fl) (put : Bool) (g : Fl) (r : List Fl) : gl f put (g :: r) = (if put = false ∧ f.n ≤ g.n then [f] else []) ++ ((if g.n = f.n then [] else [g]) ++ gl f (put || decide (f.n ≤ g.n)) r) := rfl
theorem gl_true (f : Fl) (fs : List Fl) : gl f true fs = fs.filter fun g => !(g.n == f.n) := by
  induction fs with
  | nil => rfl
  | cons g r ih =>
    rw [List.filter_cons]
    by_cases h : g.n = f.n
    · simp [gl, h, ih]
    · simp [gl, h, ih]
theorem gl_false (f : Fl) (fs : List Fl) (ha : Asc fs) : gl f false fs = ins f fs := by
  induction fs with
  | nil => rfl
  | cons g r ih =>
    unfold Asc at ha
    rw [List.pairwise_cons] at ha
    have hr : gl f true r = r.filter fun g => !(g.n == f.n) := gl_true f r
    unfold gl ins
    by_cases h1 : f.n = g.n
    · rw [if_pos h1, if_pos ⟨rfl, by rw [h1]; exact List.le_refl _⟩, if_pos h1.symm]
      have hd : (false || decide (f.n ≤ g.n)) = true := by rw [h1]; simp [List.le_refl]
      rw [hd, hr, List.filter_eq_self.2 (fun k hk => by have := lt_ne (ha.1 k hk); rw [← h1] at this; simpa using fun e : k.n = f.n => this e.symm)]
      rfl
    · rw [if_neg h1, if_neg (show ¬ g.n = f.n from fun e => h1 e.symm)]
      by_cases h2 : f.n ≤ g.n
      · rw [if_pos h2, if_pos ⟨rfl, h2⟩]
        have hd : (false || decide (f.n ≤ g.n)) = true := by simp [h2]
        have hlt := lt_of h2 h1
        rw [hd, hr, List.filter_eq_self.2 (fun k hk => by have := lt_ne (List.lt_trans hlt (ha.1 k hk)); simpa using fun e : k.n = f.n => this e.symm)]
        rfl
      · rw [if_neg h2, if_neg (show ¬ (false = false ∧ f.n ≤ g.n) from fun e => h2 e.2)]
        have hd : (false || decide (f.n ≤ g.n)) = false := by simp [h2]
        rw [hd, ih ha.2]
        rfl
theorem gl_lay (f : Fl) (fs : List Fl) (ha : Asc fs) : gl f (decide (f.b.length = 0)) fs = lay f fs := by
  unfold lay
  by_cases h : f.b = []
  · rw [if_pos h]
    have : decide (f.b.length = 0) = true := by simp [h]
    rw [this, gl_true]
  · rw [if_neg h]
    have : decide (f.b.length = 0) = false := by simp [h]
    rw [this, gl_false f fs ha]
theorem fcells_snoc (sl : By → Value) (A : List Fl) (f : Fl) : fcells sl (A ++ [f]) = fcells sl A ++ fcell sl f := by
  unfold fcells; rw [List.flatMap_append]; simp
theorem fcell_one (sl : By → Value) (f : Fl) (h : (sl f.n).oneCell' = true) : ∀ u ∈ fcell sl f, u.oneCell' = true := by
  intro u hu
  unfold fcell at hu
  simp only [List.mem_cons, List.not_mem_nil, or_false] at hu
  rcases hu with rfl | rfl | rfl
  · rfl
  · exact h
  · rfl
theorem file_row : (Try.prog.info? 68).map (fun i => (i.zero, i.size, i.bytes)) = some (some (.agg #[.string ⟨#[]⟩, .slice none 0 0, .int .i64 0]), 3, 48) := by kernel_rfl
set_option maxRecDepth 100000 in
set_option maxHeartbeats 4000000 in
theorem rlay_any (q : Nat) (st : St) (sl : By → Value) (fv : Value) (rl : Int) (K : Nat → Prop) (x b : By) (s : Nat) (v : Value) (w : World) (h : RA w q st sl fv rl K) (hx : 1 ≤ x.length ∧ x.length ≤ 64)
    (hv : Rd w 1 v b.length (Lib.byteCells b)) (hvk : ∀ g, v.ownBlock = some g → g < w.heap.size ∧ K g ∧ g ≠ q) (hs : s ≤ b.length) (ht : tot (lay ⟨x, b, s⟩ st.fs) ≤ st.room) :
    Calls Try.prog 41 #[.pointer (some ⟨q, 0, none⟩), fileV x v s] w fun e w' => e = .returned (.tuple #[]) ∧ Out (fun k => k = q) w w' ∧
      ∃ fv', RA w' q { st with fs := lay ⟨x, b, s⟩ st.fs } (fun y => if y = x then v else sl y) fv' rl (fun k => K k ∨ w.heap.size ≤ k) := by
  obtain ⟨va, vc, hve⟩ := hv.slice
  subst hve
  obtain ⟨i0, hi, hz0, hz1, hz2⟩ := info_parts file_row
  have hlen := h.len
  have HP := Lib.hid h
  have HV := Lib.hid (And.intro hv hvk)
  have HX := Lib.hid (And.intro hx (And.intro hs ht))
  have HR := Lib.hid h.rd
  have c0 := h.blk.cell 0 rfl
  have HGL := Lib.hid (gl_lay ⟨x, b, s⟩ st.fs h.fit.asc)
  have HSL : Hid (∀ g ∈ st.fs, ∃ a c, sl g.n = .slice a g.b.length c) := Lib.hid (fun g hg => (h.row g hg).slice)
  obtain ⟨fa, fc, hfv⟩ := h.rd.slice
  subst hfv
  obtain ⟨bl, hbl⟩ : ∃ bl, bl = b.length := ⟨_, rfl⟩
  rw [← hbl]
  have HBL := Lib.hid hbl
  obtain ⟨P0, hP0⟩ : ∃ P0, P0 = decide (bl = 0) := ⟨_, rfl⟩
  have t0 : decide ((bl : Int) = 0) = P0 := by rw [hP0]; simp
  have t0' : ((bl : Int) == 0) = P0 := by rw [hP0]; rw [Bool.eq_iff_iff]; simp
  have HP0 := Lib.hid hP0
  unfold fileV
  clear h hv hvk hx hs ht hbl hP0
  go_enter Try.func41, Try.ntmps41
  go_wp2_with fail
  obtain ⟨SLF, hSLF⟩ : ∃ SLF : By → Value, SLF = (fun y => if y = x then .slice va bl vc else sl y) := ⟨_, rfl⟩
  have HSLF := Lib.hid hSLF
  have HT0 : Hid (∃ T, gl ⟨x, b, s⟩ P0 st.fs = T) := Lib.hid ⟨_, rfl⟩
  obtain ⟨T, hT⟩ := HT0.out
  have HTE := Lib.hid hT
  have hbA : Below w.heap.size w (w.alloc (.cells #[.string ⟨x.toArray⟩, .slice va bl vc, .int .i64 (s : Int)] 68)) := (Below.refl _ _).alloc (Nat.le_refl _) _
  have hbk := Blk.new w 68 [.string ⟨x.toArray⟩, .slice va bl vc, .int .i64 (s : Int)]
  have hszA : (w.alloc (.cells #[.string ⟨x.toArray⟩, .slice va bl vc, .int .i64 (s : Int)] 68)).heap.size = w.heap.size + 1 := by simp
  generalize hWA : w.alloc (.cells #[.string ⟨x.toArray⟩, .slice va bl vc, .int .i64 (s : Int)] 68) = WA at *
  have HWA := Lib.hid (And.intro hbA (And.intro hbk hszA))
  have FC : Hid (∀ W, Below (w.heap.size + 1) WA W → W.cell? ⟨q, 0, none⟩ = some (.slice fa st.fs.length fc) ∧ W.cell? ⟨w.heap.size, 0, none⟩ = some (.string ⟨x.toArray⟩) ∧ W.cell? ⟨w.heap.size, 1, none⟩ = some (.slice va bl vc) ∧ W.cell? ⟨w.heap.size, 2, none⟩ = some (.int .i64 (s : Int))) := Lib.hid (fun W hb => by
    have h1 := ((HP.out.below hbA).blk.below hb (by have := HP.out.blk.lt; omega)).cell 0 rfl
    have h2 := hbk.below hb (by omega)
    exact ⟨h1, h2.cell 0 rfl, h2.cell 1 rfl, h2.cell 2 rfl⟩)
  clear hSLF hT HT0 hbA hbk
  have HFIN : Hid (∀ (W' : World) (l : Value) (L : List Fl), Below (w.heap.size + 1) WA W' → W'.ownsRow (w.heap.size + 1) 68 3 l L.length (fcells SLF L) → L = lay ⟨x, b, s⟩ st.fs →
      Out (fun k => k = q) w (W'.setCell ⟨q, 0, none⟩ l) ∧ ∃ fv', RA (W'.setCell ⟨q, 0, none⟩ l) q { st with fs := lay ⟨x, b, s⟩ st.fs } (fun y => if y = x then .slice va bl vc else sl y) fv' rl (fun k => K k ∨ w.heap.size ≤ k)) := Lib.hid (fun W' l L hb hrow hL => by
    have hsz := HWA.out.2.2
    have hbW : Below w.heap.size w W' := HWA.out.1.trans (hb.mono (by omega))
    have ho : Out (fun k => k = q) w (W'.setCell ⟨q, 0, none⟩ l) := (Out.of_below _ hbW).set _ _ rfl
    have hq := HP.out.blk.lt
    have hset : ∀ g, g ≠ q → (W'.setCell ⟨q, 0, none⟩ l).heap[g]? = W'.heap[g]? := fun g hg => Below.heap_setCell _ _ _ _ hg
    have hsl2 : SLF = (fun y => if y = x then .slice va bl vc else sl y) := HSLF.out
    rw [← hsl2, ← hL]
    have hall : ∀ f ∈ L, (f = ⟨x, b, s⟩ ∧ SLF f.n = .slice va bl vc) ∨ (f ∈ st.fs ∧ SLF f.n = sl f.n) := fun f hf => by
      rw [hL] at hf
      rcases mem_lay HP.out.fit.asc hf with ⟨rfl, _⟩ | ⟨h1, h2⟩
      · exact .inl ⟨rfl, by rw [hsl2]; simp⟩
      · exact .inr ⟨h1, by rw [hsl2]; simp only at h2; simp only [if_neg h2]⟩
    have hrd := HP.out.below hbW
    refine ⟨ho, l, (hrd.blk.set 0 l), HP.out.left, rd_keep (Rd.of_own hrow) (fun g hg => hset g (by have := (hrow.lt g hg).1; omega)), fun g hg => ?_, fun f hf => ?_, fun f hf g hg => ?_, .inl HP.out.kq, ?_⟩
    · have := hrow.lt g hg
      exact ⟨by simpa using this.2, .inr (by omega), by omega⟩
    · rcases hall f hf with ⟨rfl, e⟩ | ⟨h1, e⟩
      · rw [e, HBL.out]; exact rd_keep (HV.out.1.below hbW) (fun g hg => hset g (HV.out.2 g hg).2.2)
      · rw [e]; exact rd_keep (hrd.row f h1) (fun g hg => hset g (HP.out.kr f h1 g hg).2.2)
    · have hz : (W'.setCell ⟨q, 0, none⟩ l).heap.size = W'.heap.size := by simp
      rw [hz]
      rcases hall f hf with ⟨rfl, e⟩ | ⟨h1, e⟩
      · rw [e, HBL.out] at hg; have := HV.out.2 g hg; exact ⟨Nat.lt_of_lt_of_le this.1 hbW.size, .inl this.2.1, this.2.2⟩
      · rw [e] at hg; have := HP.out.kr f h1 g hg; exact ⟨Nat.lt_of_lt_of_le this.1 hbW.size, .inl this.2.1, this.2.2⟩
    · rw [hL]
      refine ⟨asc_lay _ _ HP.out.fit.asc, HP.out.fit.room, HX.out.2.2, fun g hg => ?_, HP.out.fit.left⟩
      rcases mem_lay HP.out.fit.asc hg with ⟨rfl, hb⟩ | ⟨h1, h2⟩
      · exact ⟨hb, HX.out.2.1, HX.out.1⟩
      · exact HP.out.fit.file g h1)
  have HTL0 : Hid (T = lay ⟨x, b, s⟩ st.fs) := Lib.hid (by rw [← HTE.out, HP0.out, HBL.out]; exact HGL.out)
  have HFZ : Hid (∀ W, Below (w.heap.size + 1) WA W → W.frozen? ⟨q, 0, none⟩ = false) := Lib.hid (fun W hb => ((HP.out.below HWA.out.1).blk.below hb (by have := HP.out.blk.lt; omega)).frozen 0)
  have hself : Below (w.heap.size + 1) WA WA := Below.refl _ _
  go_loopw [4, 5, 6] (fun l p i wr => ∃ (k : Nat) (pb : Bool) (A : List Fl), k ≤ st.fs.length ∧ i = .int .i64 (k : Int) ∧ p = .bool pb ∧ wr.ownsRow (w.heap.size + 1) 68 3 l A.length (fcells SLF A) ∧ Below (w.heap.size + 1) WA wr ∧ w.heap.size + 1 ≤ wr.heap.size ∧
      A ++ gl ⟨x, b, s⟩ pb (st.fs.drop k) = T ∧ A.length ≤ 2 * k) (fun _ _ i _ => st.fs.length - (intOf i).toNat)
  case atStart => exact ⟨0, P0, [], Nat.zero_le _, rfl, rfl, World.ownsRow_nil _ _ _ _, hself, by omega, HTE.out, by simp⟩
  case round =>
    clear hself hszA hWA c0
    obtain ⟨k, pb, A, hk, rfl, rfl, hrow, hb, hsz, hA, hAl⟩ := hrel
    obtain ⟨la, lc, hle⟩ := (Rd.of_own hrow).slice
    subst hle
    by_cases hkn : k < st.fs.length
    case neg =>
      have hk' : k = st.fs.length := by omega
      subst hk'
      rw [List.drop_of_length_le (Nat.le_refl _)] at hA
      obtain ⟨c0, z0, z1, z2⟩ := FC.out wr hb
      have HA := Lib.hid hA
      have HOW := Lib.hid hrow
      have HB := Lib.hid hb
      clear hA hrow hb
      have f0 := HFZ.out wr HB.out
      cases pb with
      | true =>
        have HE := Lib.hid (HFIN.out wr _ A HB.out HOW.out (by rw [← HTL0.out, ← HA.out]; simp [gl]))
        clear HB HOW HA
        go_wp2_with fail
        refine bodyPost_end (results_none rfl _ _ _) rfl ?_
        exact ⟨rfl, HE.out⟩
      | false =>
        have HSE : Hid (SLF x = .slice va bl vc) := Lib.hid (by rw [HSLF.out]; simp only [if_true])
        have hown := HOW.out
        have HSZ := Lib.hid hsz
        go_wp2_with (at_builtin; go_loud (refine wpList_append_own _ rfl _ _ 29 rfl (w.heap.size + 1) 68 i0 (.agg #[.string ⟨#[]⟩, .slice none 0 0, .int .i64 0]) 3 48 Try.underlying29 hi hz0 hz1 hz2 rfl (by decide) _ _ _ rfl (hown.alloc _) ⟨wr.heap.size, 0, none⟩ 1 1 [.string ⟨x.toArray⟩, .slice va bl vc, .int .i64 (s : Int)] rfl rfl (cells_new _ _ _) ?c2 ?c3 ?c4 ?c5 ?_))
        case c2 => (intro u hu; simp only [List.mem_cons, List.not_mem_nil, or_false] at hu; rcases hu with rfl | rfl | rfl <;> rfl)
        case c3 => (unfold maxLen; omega)
        case c4 => omega
        case c5 => (have := HSZ.out; simp; omega)
        intro lv2 W2 hown' hg3 hnil3
        have hrw : W2.ownsRow (w.heap.size + 1) 68 3 lv2 (A ++ [(⟨x, b, s⟩ : Fl)]).length (fcells SLF (A ++ [(⟨x, b, s⟩ : Fl)])) := by
          rw [fcells_snoc, List.length_append]
          unfold fcell
          rw [HSE.out]
          exact hown'
        have hbn : Below (w.heap.size + 1) WA W2 := (HB.out.alloc HSZ.out _).grown hg3 (by have := HSZ.out; simp; omega) (fun j hj => (hown.lt j hj).1)
        obtain ⟨ea, ec, hee⟩ := (Rd.of_own hrw).slice
        subst hee
        have HE := Lib.hid (HFIN.out W2 _ _ hbn hrw (by rw [← HTL0.out, ← HA.out]; simp [gl]))
        rw [show (A ++ [(⟨x, b, s⟩ : Fl)]).length = A.length + 1 from by simp] at HE
        obtain ⟨c0, z0, z1, z2⟩ := FC.out W2 hbn
        have f0 := HFZ.out W2 hbn
        clear HB HOW HA hown hown' hg3 hnil3 hrw hbn
        go_wp2_with fail
        refine bodyPost_end (results_none rfl _ _ _) rfl ?_
        exact ⟨rfl, HE.out⟩
    case pos =>
    obtain ⟨f, hf⟩ : ∃ f, st.fs[k]? = some f := ⟨_, List.getElem?_eq_getElem hkn⟩
    have hdr : st.fs.drop k = f :: st.fs.drop (k + 1) := by
      rw [List.drop_eq_getElem_cons hkn]
      rw [(List.getElem?_eq_some_iff.1 hf).2]
    rw [hdr] at hA
    obtain ⟨ga, gc, hgs⟩ := HSL.out f (List.mem_of_getElem? hf)
    obtain ⟨b1, o1, cap1, e1, hcap1, _⟩ := HR.out.pos (by omega)
    cases e1
    have FQ : Hid (∀ W, Below (w.heap.size + 1) WA W → W.cell? ⟨q, 0, none⟩ = some (.slice (some ⟨b1, o1, none⟩) st.fs.length fc) ∧ W.cell? ⟨w.heap.size, 0, none⟩ = some (.string ⟨x.toArray⟩) ∧ W.cell? ⟨w.heap.size, 1, none⟩ = some (.slice va bl vc) ∧ W.cell? ⟨w.heap.size, 2, none⟩ = some (.int .i64 (s : Int)) ∧
        W.cell? ⟨b1, o1 + k * 3, none⟩ = some (.string ⟨f.n.toArray⟩) ∧ W.cell? ⟨b1, o1 + k * 3 + 1, none⟩ = some (.slice ga f.b.length gc) ∧ W.cell? ⟨b1, o1 + k * 3 + 2, none⟩ = some (.int .i64 (f.s : Int))) := Lib.hid (fun W hb => by
      obtain ⟨h1, h2, h3, h4⟩ := FC.out W hb
      obtain ⟨b2, o2, cap2, e2, _, hc1⟩ := ((HR.out.below HWA.out.1).below (hb.mono (by have := HWA.out.2.2; omega))).pos (by omega)
      cases e2
      obtain ⟨q1, q2, q3⟩ := fcells_at (sl := sl) hf
      replace q1 := hc1 _ _ q1
      replace q2 := hc1 _ _ q2
      replace q3 := hc1 _ _ q3
      simp only [← Nat.add_assoc] at q2 q3
      rw [hgs] at q2
      exact ⟨h1, h2, h3, h4, q1, q2, q3⟩)
    have g1 : (k : Int) < (st.fs.length : Int) := by omega
    have HF := Lib.hid (And.intro hf hgs)
    have HA := Lib.hid hA
    have HOW := Lib.hid hrow
    have HB := Lib.hid hb
    have ht : (Op.bytesLess x f.n || x == f.n) = decide (x ≤ f.n) := by
      rw [Go.Proofs.bytesLess_eq, Bool.eq_iff_iff]
      simp only [Bool.or_eq_true, decide_eq_true_eq, beq_iff_eq]
      constructor
      · rintro (h | h)
        · exact List.le_of_lt h
        · rw [h]; exact List.le_refl _
      · intro h
        by_cases e : x = f.n
        · exact Or.inr e
        · exact Or.inl (lt_of h e)
    have HTL := Lib.hid ht
    clear hf hdr hgs hA hb hrow ht
    obtain ⟨c0, z0, z1, z2, q1, q2, q3⟩ := FQ.out wr HB.out
    have HSZ := Lib.hid hsz
    clear hsz
    cases pb with
    | true =>
      have HLE : Hid (True) := Lib.hid trivial
      go_wp2_with fail
      refine wp_region_U (S := (fun W => Below (w.heap.size + 1) WA W ∧ W.ownsRow (w.heap.size + 1) 68 3 (.slice la A.length lc) A.length (fcells SLF A) ∧ w.heap.size + 1 ≤ W.heap.size)) (by kernel_rfl) ?_ ?_
      · exact ⟨HB.out.drew, HOW.out, HSZ.out⟩
      refine wpU_take (i := 0) (oi := ?oi1) (v := ?v1) ?hi1 (by kernel_rfl) (by kernel_rfl) (by kernel_rfl) ?hy1 ?rest1
      case hi1 => (simp only [List.getElem?_toArray, List.getElem?_cons_succ, List.getElem?_cons_zero]; rfl)
      case hy1 => (refine Or.inl ⟨by rfl, ?_⟩; intro W hSw; (obtain ⟨c0, z0, z1, z2, q1, q2, q3⟩ := FQ.out _ hSw.1; clear hSw); go_simp; (try with_reducible rfl))
      try simp only [Act.put, List.setIfInBounds_toArray, List.set_cons_zero, List.set_cons_succ]
      refine wpU_take (i := 1) (oi := ?oi2) (v := ?v2) ?hi2 (by kernel_rfl) (by kernel_rfl) (by kernel_rfl) ?hy2 ?rest2
      case hi2 => (simp only [List.getElem?_toArray, List.getElem?_cons_succ, List.getElem?_cons_zero]; rfl)
      case hy2 => (refine Or.inl ⟨by rfl, ?_⟩; intro W hSw; (obtain ⟨c0, z0, z1, z2, q1, q2, q3⟩ := FQ.out _ hSw.1; clear hSw); go_simp; (try with_reducible rfl))
      try simp only [Act.put, List.setIfInBounds_toArray, List.set_cons_zero, List.set_cons_succ]
      refine wpU_take (i := 2) (oi := ?oi3) (v := ?v3) ?hi3 (by kernel_rfl) (by kernel_rfl) (by kernel_rfl) ?hy3 ?rest3
      case hi3 => (simp only [List.getElem?_toArray, List.getElem?_cons_succ, List.getElem?_cons_zero]; rfl)
      case hy3 => (refine Or.inl ⟨by rfl, ?_⟩; intro W hSw; (obtain ⟨c0, z0, z1, z2, q1, q2, q3⟩ := FQ.out _ hSw.1; clear hSw); go_simp; (try with_reducible rfl))
      try simp only [Act.put, List.setIfInBounds_toArray, List.set_cons_zero, List.set_cons_succ]
      refine wpU_take (i := 3) (oi := ?oi4) (v := undef) ?hi4 (by kernel_rfl) (by kernel_rfl) (by kernel_rfl) ?hy4 ?rest4
      case hi4 => (simp only [List.getElem?_toArray, List.getElem?_cons_succ, List.getElem?_cons_zero]; rfl)
      case hy4 => exact Or.inr (Or.inl ⟨by rfl, rfl⟩)
      try simp only [Act.put, List.setIfInBounds_toArray, List.set_cons_zero, List.set_cons_succ]
      refine wpU_take (i := 4) (oi := ?oi5) (v := undef) ?hi5 (by kernel_rfl) (by kernel_rfl) (by kernel_rfl) ?hy5 ?rest5
      case hi5 => (simp only [List.getElem?_toArray, List.getElem?_cons_succ, List.getElem?_cons_zero]; rfl)
      case hy5 => exact Or.inr (Or.inl ⟨by rfl, rfl⟩)
      try simp only [Act.put, List.setIfInBounds_toArray, List.set_cons_zero, List.set_cons_succ]
      refine wpU_take (i := 5) (oi := ?oi6) (v := undef) ?hi6 (by kernel_rfl) (by kernel_rfl) (by kernel_rfl) ?hy6 ?rest6
      case hi6 => (simp only [List.getElem?_toArray, List.getElem?_cons_succ, List.getElem?_cons_zero]; rfl)
      case hy6 => exact Or.inr (Or.inl ⟨by rfl, rfl⟩)
      try simp only [Act.put, List.setIfInBounds_toArray, List.set_cons_zero, List.set_cons_succ]
      refine wpU_take (i := 6) (oi := ?oi7) (v := undef) ?hi7 (by kernel_rfl) (by kernel_rfl) (by kernel_rfl) ?hy7 ?rest7
      case hi7 => (simp only [List.getElem?_toArray, List.getElem?_cons_succ, List.getElem?_cons_zero]; rfl)
      case hy7 => exact Or.inr (Or.inl ⟨by rfl, rfl⟩)
      try simp only [Act.put, List.setIfInBounds_toArray, List.set_cons_zero, List.set_cons_succ]
      refine wpU_take (i := 7) (oi := ?oi8) (v := undef) ?hi8 (by kernel_rfl) (by kernel_rfl) (by kernel_rfl) ?hy8 ?rest8
      case hi8 => (simp only [List.getElem?_toArray, List.getElem?_cons_succ, List.getElem?_cons_zero]; rfl)
      case hy8 => exact Or.inr (Or.inl ⟨by rfl, rfl⟩)
      try simp only [Act.put, List.setIfInBounds_toArray, List.set_cons_zero, List.set_cons_succ]
      refine wpU_take (i := 8) (oi := ?oi9) (v := undef) ?hi9 (by kernel_rfl) (by kernel_rfl) (by kernel_rfl) ?hy9 ?rest9
      case hi9 => (simp only [List.getElem?_toArray, List.getElem?_cons_succ, List.getElem?_cons_zero]; rfl)
      case hy9 => exact Or.inr (Or.inl ⟨by rfl, rfl⟩)
      try simp only [Act.put, List.setIfInBounds_toArray, List.set_cons_zero, List.set_cons_succ]
      refine wpU_take (i := 9) (oi := ?oi10) (v := undef) ?hi10 (by kernel_rfl) (by kernel_rfl) (by kernel_rfl) ?hy10 ?rest10
      case hi10 => (simp only [List.getElem?_toArray, List.getElem?_cons_succ, List.getElem?_cons_zero]; rfl)
      case hy10 => exact Or.inr (Or.inl ⟨by rfl, rfl⟩)
      try simp only [Act.put, List.setIfInBounds_toArray, List.set_cons_zero, List.set_cons_succ]
      refine wpU_take (i := 10) (oi := ?oi11) (v := undef) ?hi11 (by kernel_rfl) (by kernel_rfl) (by kernel_rfl) ?hy11 ?rest11
      case hi11 => (simp only [List.getElem?_toArray, List.getElem?_cons_succ, List.getElem?_cons_zero]; rfl)
      case hy11 => exact Or.inr (Or.inl ⟨by rfl, rfl⟩)
      try simp only [Act.put, List.setIfInBounds_toArray, List.set_cons_zero, List.set_cons_succ]
      refine wpU_take (i := 11) (oi := ?oi12) (v := undef) ?hi12 (by kernel_rfl) (by kernel_rfl) (by kernel_rfl) ?hy12 ?rest12
      case hi12 => (simp only [List.getElem?_toArray, List.getElem?_cons_succ, List.getElem?_cons_zero]; rfl)
      case hy12 => exact Or.inr (Or.inl ⟨by rfl, rfl⟩)
      try simp only [Act.put, List.setIfInBounds_toArray, List.set_cons_zero, List.set_cons_succ]
      refine wpU_take (i := 12) (oi := ?oi13) (v := undef) ?hi13 (by kernel_rfl) (by kernel_rfl) (by kernel_rfl) ?hy13 ?rest13
      case hi13 => (simp only [List.getElem?_toArray, List.getElem?_cons_succ, List.getElem?_cons_zero]; rfl)
      case hy13 => exact Or.inr (Or.inl ⟨by rfl, rfl⟩)
      try simp only [Act.put, List.setIfInBounds_toArray, List.set_cons_zero, List.set_cons_succ]
      refine wpU_take (i := 13) (oi := ?oi14) (v := undef) ?hi14 (by kernel_rfl) (by kernel_rfl) (by kernel_rfl) ?hy14 ?rest14
      case hi14 => (simp only [List.getElem?_toArray, List.getElem?_cons_succ, List.getElem?_cons_zero]; rfl)
      case hy14 => exact Or.inr (Or.inl ⟨by rfl, rfl⟩)
      try simp only [Act.put, List.setIfInBounds_toArray, List.set_cons_zero, List.set_cons_succ]
      refine wpU_take (i := 14) (oi := ?oi15) (v := ?v15) ?hi15 (by kernel_rfl) (by kernel_rfl) (by kernel_rfl) ?hy15 ?rest15
      case hi15 => (simp only [List.getElem?_toArray, List.getElem?_cons_succ, List.getElem?_cons_zero]; rfl)
      case hy15 => (refine Or.inl ⟨by rfl, ?_⟩; intro W hSw; (obtain ⟨c0, z0, z1, z2, q1, q2, q3⟩ := FQ.out _ hSw.1; clear hSw); go_simp; (try with_reducible rfl))
      try simp only [Act.put, List.setIfInBounds_toArray, List.set_cons_zero, List.set_cons_succ]
      refine wpU_done (by kernel_rfl) ?_ _
      intro W6 hSw
      clear HB HOW HSZ c0 z0 z1 z2 q1 q2 q3
      have HB := Lib.hid hSw.1
      have HOW := Lib.hid hSw.2.1
      have HSZ := Lib.hid hSw.2.2
      clear hSw
      by_cases hn : f.n = x
      case pos =>
        have HNX : Hid (A ++ gl ⟨x, b, s⟩ true (st.fs.drop (k + 1)) = T) := Lib.hid (by rw [← HA.out, gl_cons]; (try simp only); rw [if_pos hn]; simp [HLE.out])
        have hne : (f.n == x) = true := by simpa using hn
        have hne2 := str_eq hne
        have hne3 := hn
        clear hn
        obtain ⟨c0, z0, z1, z2, q1, q2, q3⟩ := FQ.out W6 HB.out
        go_wp2_with fail
        refine wp_region_U (S := (fun W => Below (w.heap.size + 1) WA W ∧ W.ownsRow (w.heap.size + 1) 68 3 (.slice la A.length lc) A.length (fcells SLF A) ∧ w.heap.size + 1 ≤ W.heap.size)) (by kernel_rfl) ?_ ?_
        · exact ⟨HB.out.drew, HOW.out, HSZ.out⟩
        refine wpU_take (i := 0) (oi := ?oi16) (v := ?v16) ?hi16 (by kernel_rfl) (by kernel_rfl) (by kernel_rfl) ?hy16 ?rest16
        case hi16 => (simp only [List.getElem?_toArray, List.getElem?_cons_succ, List.getElem?_cons_zero]; rfl)
        case hy16 => (refine Or.inl ⟨by rfl, ?_⟩; intro W hSw; (obtain ⟨c0, z0, z1, z2, q1, q2, q3⟩ := FQ.out _ hSw.1; clear hSw); go_simp; (try with_reducible rfl))
        try simp only [Act.put, List.setIfInBounds_toArray, List.set_cons_zero, List.set_cons_succ]
        refine wpU_take (i := 1) (oi := ?oi17) (v := ?v17) ?hi17 (by kernel_rfl) (by kernel_rfl) (by kernel_rfl) ?hy17 ?rest17
        case hi17 => (simp only [List.getElem?_toArray, List.getElem?_cons_succ, List.getElem?_cons_zero]; rfl)
        case hy17 => (refine Or.inl ⟨by rfl, ?_⟩; intro W hSw; (obtain ⟨c0, z0, z1, z2, q1, q2, q3⟩ := FQ.out _ hSw.1; clear hSw); go_simp; (try with_reducible rfl))
        try simp only [Act.put, List.setIfInBounds_toArray, List.set_cons_zero, List.set_cons_succ]
        refine wpU_take (i := 2) (oi := ?oi18) (v := ?v18) ?hi18 (by kernel_rfl) (by kernel_rfl) (by kernel_rfl) ?hy18 ?rest18
        case hi18 => (simp only [List.getElem?_toArray, List.getElem?_cons_succ, List.getElem?_cons_zero]; rfl)
        case hy18 => (refine Or.inl ⟨by rfl, ?_⟩; intro W hSw; (obtain ⟨c0, z0, z1, z2, q1, q2, q3⟩ := FQ.out _ hSw.1; clear hSw); go_simp; (try with_reducible rfl))
        try simp only [Act.put, List.setIfInBounds_toArray, List.set_cons_zero, List.set_cons_succ]
        refine wpU_take (i := 3) (oi := ?oi19) (v := ?v19) ?hi19 (by kernel_rfl) (by kernel_rfl) (by kernel_rfl) ?hy19 ?rest19
        case hi19 => (simp only [List.getElem?_toArray, List.getElem?_cons_succ, List.getElem?_cons_zero]; rfl)
        case hy19 => (refine Or.inl ⟨by rfl, ?_⟩; intro W hSw; (obtain ⟨c0, z0, z1, z2, q1, q2, q3⟩ := FQ.out _ hSw.1; clear hSw); go_simp; (try with_reducible rfl))
        try simp only [Act.put, List.setIfInBounds_toArray, List.set_cons_zero, List.set_cons_succ]
        refine wpU_take (i := 4) (oi := ?oi20) (v := ?v20) ?hi20 (by kernel_rfl) (by kernel_rfl) (by kernel_rfl) ?hy20 ?rest20
        case hi20 => (simp only [List.getElem?_toArray, List.getElem?_cons_succ, List.getElem?_cons_zero]; rfl)
        case hy20 => (refine Or.inl ⟨by rfl, ?_⟩; intro W hSw; (obtain ⟨c0, z0, z1, z2, q1, q2, q3⟩ := FQ.out _ hSw.1; clear hSw); go_simp; (try with_reducible rfl))
        try simp only [Act.put, List.setIfInBounds_toArray, List.set_cons_zero, List.set_cons_succ]
        refine wpU_take (i := 5) (oi := ?oi21) (v := ?v21) ?hi21 (by kernel_rfl) (by kernel_rfl) (by kernel_rfl) ?hy21 ?rest21
        case hi21 => (simp only [List.getElem?_toArray, List.getElem?_cons_succ, List.getElem?_cons_zero]; rfl)
        case hy21 => (refine Or.inl ⟨by rfl, ?_⟩; intro W hSw; (obtain ⟨c0, z0, z1, z2, q1, q2, q3⟩ := FQ.out _ hSw.1; clear hSw); go_simp; (try with_reducible rfl))
        try simp only [Act.put, List.setIfInBounds_toArray, List.set_cons_zero, List.set_cons_succ]
        refine wpU_take (i := 6) (oi := ?oi22) (v := ?v22) ?hi22 (by kernel_rfl) (by kernel_rfl) (by kernel_rfl) ?hy22 ?rest22
        case hi22 => (simp only [List.getElem?_toArray, List.getElem?_cons_succ, List.getElem?_cons_zero]; rfl)
        case hy22 => (refine Or.inl ⟨by rfl, ?_⟩; intro W hSw; (obtain ⟨c0, z0, z1, z2, q1, q2, q3⟩ := FQ.out _ hSw.1; clear hSw); go_simp; (try with_reducible rfl))
        try simp only [Act.put, List.setIfInBounds_toArray, List.set_cons_zero, List.set_cons_succ]
        refine wpU_take (i := 7) (oi := ?oi23) (v := ?v23) ?hi23 (by kernel_rfl) (by kernel_rfl) (by kernel_rfl) ?hy23 ?rest23
        case hi23 => (simp only [List.getElem?_toArray, List.getElem?_cons_succ, List.getElem?_cons_zero]; rfl)
        case hy23 => (refine Or.inl ⟨by rfl, ?_⟩; intro W hSw; (obtain ⟨c0, z0, z1, z2, q1, q2, q3⟩ := FQ.out _ hSw.1; clear hSw); go_simp; (try with_reducible rfl))
        try simp only [Act.put, List.setIfInBounds_toArray, List.set_cons_zero, List.set_cons_succ]
        refine wpU_take (i := 8) (oi := ?oi24) (v := ?v24) ?hi24 (by kernel_rfl) (by kernel_rfl) (by kernel_rfl) ?hy24 ?rest24
        case hi24 => (simp only [List.getElem?_toArray, List.getElem?_cons_succ, List.getElem?_cons_zero]; rfl)
        case hy24 => (refine Or.inl ⟨by rfl, ?_⟩; intro W hSw; (obtain ⟨c0, z0, z1, z2, q1, q2, q3⟩ := FQ.out _ hSw.1; clear hSw); go_simp; (try with_reducible rfl))
        try simp only [Act.put, List.setIfInBounds_toArray, List.set_cons_zero, List.set_cons_succ]
        refine wpU_take (i := 9) (oi := ?oi25) (v := ?v25) ?hi25 (by kernel_rfl) (by kernel_rfl) (by kernel_rfl) ?hy25 ?rest25
        case hi25 => (simp only [List.getElem?_toArray, List.getElem?_cons_succ, List.getElem?_cons_zero]; rfl)
        case hy25 => (refine Or.inl ⟨by rfl, ?_⟩; intro W hSw; (obtain ⟨c0, z0, z1, z2, q1, q2, q3⟩ := FQ.out _ hSw.1; clear hSw); go_simp; (try with_reducible rfl))
        try simp only [Act.put, List.setIfInBounds_toArray, List.set_cons_zero, List.set_cons_succ]
        refine wpU_take (i := 10) (oi := ?oi26) (v := ?v26) ?hi26 (by kernel_rfl) (by kernel_rfl) (by kernel_rfl) ?hy26 ?rest26
        case hi26 => (simp only [List.getElem?_toArray, List.getElem?_cons_succ, List.getElem?_cons_zero]; rfl)
        case hy26 => (refine Or.inl ⟨by rfl, ?_⟩; intro W hSw; (obtain ⟨c0, z0, z1, z2, q1, q2, q3⟩ := FQ.out _ hSw.1; clear hSw); go_simp; (try with_reducible rfl))
        try simp only [Act.put, List.setIfInBounds_toArray, List.set_cons_zero, List.set_cons_succ]
        refine wpU_done (by kernel_rfl) ?_ _
        intro W9 hSw
        clear HB HOW HSZ c0 z0 z1 z2 q1 q2 q3
        have HB := Lib.hid hSw.1
        have HOW := Lib.hid hSw.2.1
        have HSZ := Lib.hid hSw.2.2
        clear hSw
        obtain ⟨c0, z0, z1, z2, q1, q2, q3⟩ := FQ.out W9 HB.out
        go_wp2_with fail
        go_roundw
        case rel => exact ⟨k + 1, true, A, by omega, by go_num, rfl, HOW.out, HB.out, HSZ.out, HNX.out, by first | omega | (simp; omega)⟩
        case measure => simp [intOf]; omega
      case neg =>
        have HNX : Hid ((A ++ [f]) ++ gl ⟨x, b, s⟩ true (st.fs.drop (k + 1)) = T) := Lib.hid (by rw [← HA.out, gl_cons]; (try simp only); rw [if_neg hn]; simp [HLE.out])
        have HSE : Hid (SLF f.n = .slice ga f.b.length gc) := Lib.hid (by rw [HSLF.out]; simp only [if_neg hn]; exact HF.out.2)
        have hne : (f.n == x) = false := by simpa using hn
        have hne2 := str_ne hne
        clear hn
        obtain ⟨c0, z0, z1, z2, q1, q2, q3⟩ := FQ.out W6 HB.out
        go_wp2_with fail
        refine wp_region_U (S := (fun W => Below (w.heap.size + 1) WA W ∧ W.ownsRow (w.heap.size + 1) 68 3 (.slice la A.length lc) A.length (fcells SLF A) ∧ w.heap.size + 1 ≤ W.heap.size)) (by kernel_rfl) ?_ ?_
        · exact ⟨HB.out.drew, HOW.out, HSZ.out⟩
        refine wpU_take (i := 0) (oi := ?oi27) (v := ?v27) ?hi27 (by kernel_rfl) (by kernel_rfl) (by kernel_rfl) ?hy27 ?rest27
        case hi27 => (simp only [List.getElem?_toArray, List.getElem?_cons_succ, List.getElem?_cons_zero]; rfl)
        case hy27 => (refine Or.inl ⟨by rfl, ?_⟩; intro W hSw; (obtain ⟨c0, z0, z1, z2, q1, q2, q3⟩ := FQ.out _ hSw.1; clear hSw); go_simp; (try with_reducible rfl))
        try simp only [Act.put, List.setIfInBounds_toArray, List.set_cons_zero, List.set_cons_succ]
        refine wpU_take (i := 1) (oi := ?oi28) (v := ?v28) ?hi28 (by kernel_rfl) (by kernel_rfl) (by kernel_rfl) ?hy28 ?rest28
        case hi28 => (simp only [List.getElem?_toArray, List.getElem?_cons_succ, List.getElem?_cons_zero]; rfl)
        case hy28 => (refine Or.inl ⟨by rfl, ?_⟩; intro W hSw; (obtain ⟨c0, z0, z1, z2, q1, q2, q3⟩ := FQ.out _ hSw.1; clear hSw); go_simp; (try with_reducible rfl))
        try simp only [Act.put, List.setIfInBounds_toArray, List.set_cons_zero, List.set_cons_succ]
        refine wpU_take (i := 2) (oi := ?oi29) (v := ?v29) ?hi29 (by kernel_rfl) (by kernel_rfl) (by kernel_rfl) ?hy29 ?rest29
        case hi29 => (simp only [List.getElem?_toArray, List.getElem?_cons_succ, List.getElem?_cons_zero]; rfl)
        case hy29 => (refine Or.inl ⟨by rfl, ?_⟩; intro W hSw; (obtain ⟨c0, z0, z1, z2, q1, q2, q3⟩ := FQ.out _ hSw.1; clear hSw); go_simp; (try with_reducible rfl))
        try simp only [Act.put, List.setIfInBounds_toArray, List.set_cons_zero, List.set_cons_succ]
        refine wpU_take (i := 3) (oi := ?oi30) (v := ?v30) ?hi30 (by kernel_rfl) (by kernel_rfl) (by kernel_rfl) ?hy30 ?rest30
        case hi30 => (simp only [List.getElem?_toArray, List.getElem?_cons_succ, List.getElem?_cons_zero]; rfl)
        case hy30 => (refine Or.inl ⟨by rfl, ?_⟩; intro W hSw; (obtain ⟨c0, z0, z1, z2, q1, q2, q3⟩ := FQ.out _ hSw.1; clear hSw); go_simp; (try with_reducible rfl))
        try simp only [Act.put, List.setIfInBounds_toArray, List.set_cons_zero, List.set_cons_succ]
        refine wpU_take (i := 4) (oi := ?oi31) (v := ?v31) ?hi31 (by kernel_rfl) (by kernel_rfl) (by kernel_rfl) ?hy31 ?rest31
        case hi31 => (simp only [List.getElem?_toArray, List.getElem?_cons_succ, List.getElem?_cons_zero]; rfl)
        case hy31 => (refine Or.inl ⟨by rfl, ?_⟩; intro W hSw; (obtain ⟨c0, z0, z1, z2, q1, q2, q3⟩ := FQ.out _ hSw.1; clear hSw); go_simp; (try with_reducible rfl))
        try simp only [Act.put, List.setIfInBounds_toArray, List.set_cons_zero, List.set_cons_succ]
        refine wpU_take (i := 5) (oi := ?oi32) (v := ?v32) ?hi32 (by kernel_rfl) (by kernel_rfl) (by kernel_rfl) ?hy32 ?rest32
        case hi32 => (simp only [List.getElem?_toArray, List.getElem?_cons_succ, List.getElem?_cons_zero]; rfl)
        case hy32 => (refine Or.inl ⟨by rfl, ?_⟩; intro W hSw; (obtain ⟨c0, z0, z1, z2, q1, q2, q3⟩ := FQ.out _ hSw.1; clear hSw); go_simp; (try with_reducible rfl))
        try simp only [Act.put, List.setIfInBounds_toArray, List.set_cons_zero, List.set_cons_succ]
        refine wpU_take (i := 6) (oi := ?oi33) (v := ?v33) ?hi33 (by kernel_rfl) (by kernel_rfl) (by kernel_rfl) ?hy33 ?rest33
        case hi33 => (simp only [List.getElem?_toArray, List.getElem?_cons_succ, List.getElem?_cons_zero]; rfl)
        case hy33 => (refine Or.inl ⟨by rfl, ?_⟩; intro W hSw; (obtain ⟨c0, z0, z1, z2, q1, q2, q3⟩ := FQ.out _ hSw.1; clear hSw); go_simp; (try with_reducible rfl))
        try simp only [Act.put, List.setIfInBounds_toArray, List.set_cons_zero, List.set_cons_succ]
        refine wpU_take (i := 7) (oi := ?oi34) (v := ?v34) ?hi34 (by kernel_rfl) (by kernel_rfl) (by kernel_rfl) ?hy34 ?rest34
        case hi34 => (simp only [List.getElem?_toArray, List.getElem?_cons_succ, List.getElem?_cons_zero]; rfl)
        case hy34 => (refine Or.inl ⟨by rfl, ?_⟩; intro W hSw; (obtain ⟨c0, z0, z1, z2, q1, q2, q3⟩ := FQ.out _ hSw.1; clear hSw); go_simp; (try with_reducible rfl))
        try simp only [Act.put, List.setIfInBounds_toArray, List.set_cons_zero, List.set_cons_succ]
        refine wpU_take (i := 8) (oi := ?oi35) (v := ?v35) ?hi35 (by kernel_rfl) (by kernel_rfl) (by kernel_rfl) ?hy35 ?rest35
        case hi35 => (simp only [List.getElem?_toArray, List.getElem?_cons_succ, List.getElem?_cons_zero]; rfl)
        case hy35 => (refine Or.inl ⟨by rfl, ?_⟩; intro W hSw; (obtain ⟨c0, z0, z1, z2, q1, q2, q3⟩ := FQ.out _ hSw.1; clear hSw); go_simp; (try with_reducible rfl))
        try simp only [Act.put, List.setIfInBounds_toArray, List.set_cons_zero, List.set_cons_succ]
        refine wpU_take (i := 9) (oi := ?oi36) (v := ?v36) ?hi36 (by kernel_rfl) (by kernel_rfl) (by kernel_rfl) ?hy36 ?rest36
        case hi36 => (simp only [List.getElem?_toArray, List.getElem?_cons_succ, List.getElem?_cons_zero]; rfl)
        case hy36 => (refine Or.inl ⟨by rfl, ?_⟩; intro W hSw; (obtain ⟨c0, z0, z1, z2, q1, q2, q3⟩ := FQ.out _ hSw.1; clear hSw); go_simp; (try with_reducible rfl))
        try simp only [Act.put, List.setIfInBounds_toArray, List.set_cons_zero, List.set_cons_succ]
        refine wpU_take (i := 10) (oi := ?oi37) (v := ?v37) ?hi37 (by kernel_rfl) (by kernel_rfl) (by kernel_rfl) ?hy37 ?rest37
        case hi37 => (simp only [List.getElem?_toArray, List.getElem?_cons_succ, List.getElem?_cons_zero]; rfl)
        case hy37 => (refine Or.inl ⟨by rfl, ?_⟩; intro W hSw; (obtain ⟨c0, z0, z1, z2, q1, q2, q3⟩ := FQ.out _ hSw.1; clear hSw); go_simp; (try with_reducible rfl))
        try simp only [Act.put, List.setIfInBounds_toArray, List.set_cons_zero, List.set_cons_succ]
        refine wpU_done (by kernel_rfl) ?_ _
        intro W9 hSw
        clear HB HOW HSZ c0 z0 z1 z2 q1 q2 q3
        have HB := Lib.hid hSw.1
        have HOW := Lib.hid hSw.2.1
        have HSZ := Lib.hid hSw.2.2
        clear hSw
        obtain ⟨c0, z0, z1, z2, q1, q2, q3⟩ := FQ.out W9 HB.out
        have hown := HOW.out
        go_wp2_with (at_builtin; go_loud (refine wpList_append_own _ rfl _ _ 29 rfl (w.heap.size + 1) 68 i0 (.agg #[.string ⟨#[]⟩, .slice none 0 0, .int .i64 0]) 3 48 Try.underlying29 hi hz0 hz1 hz2 rfl (by decide) _ _ _ rfl (hown.alloc _) ⟨W9.heap.size, 0, none⟩ 1 1 [.string ⟨f.n.toArray⟩, .slice ga f.b.length gc, .int .i64 (f.s : Int)] rfl rfl (cells_new _ _ _) ?c2 ?c3 ?c4 ?c5 ?_))
        case c2 => (intro u hu; simp only [List.mem_cons, List.not_mem_nil, or_false] at hu; rcases hu with rfl | rfl | rfl <;> rfl)
        case c3 => (unfold maxLen; omega)
        case c4 => omega
        case c5 => (have := HSZ.out; simp; omega)
        intro lv2 W10 hown' hg3 hnil3
        have hrw : W10.ownsRow (w.heap.size + 1) 68 3 lv2 (A ++ [f]).length (fcells SLF (A ++ [f])) := by
          rw [fcells_snoc, List.length_append]
          unfold fcell
          rw [HSE.out]
          exact hown'
        have hbn : Below (w.heap.size + 1) WA W10 := (HB.out.alloc HSZ.out _).grown hg3 (by have := HSZ.out; simp; omega) (fun j hj => (hown.lt j hj).1)
        have hsn : w.heap.size + 1 ≤ W10.heap.size := by have h1 := hg3.size; have h2 := HSZ.out; rw [World.size_alloc] at h1; omega
        obtain ⟨lb, ld, hle⟩ := (Rd.of_own hrw).slice
        subst hle
        clear hown hown' hg3 hnil3 HOW HB HSZ HSE c0 z0 z1 z2 q1 q2 q3
        have HOW := Lib.hid hrw
        have HB := Lib.hid hbn
        have HSZ := Lib.hid hsn
        clear hrw hbn hsn
        go_wp2_with fail
        go_roundw
        case rel => exact ⟨k + 1, true, A ++ [f], by omega, by go_num, rfl, HOW.out, HB.out, HSZ.out, HNX.out, by first | omega | (simp; omega)⟩
        case measure => simp [intOf]; omega
    | false =>
      go_wp2_with fail
      refine wp_region_U (S := (fun W => Below (w.heap.size + 1) WA W ∧ W.ownsRow (w.heap.size + 1) 68 3 (.slice la A.length lc) A.length (fcells SLF A) ∧ w.heap.size + 1 ≤ W.heap.size)) (by kernel_rfl) ?_ ?_
      · exact ⟨HB.out.drew, HOW.out, HSZ.out⟩
      refine wpU_take (i := 0) (oi := ?oi38) (v := ?v38) ?hi38 (by kernel_rfl) (by kernel_rfl) (by kernel_rfl) ?hy38 ?rest38
      case hi38 => (simp only [List.getElem?_toArray, List.getElem?_cons_succ, List.getElem?_cons_zero]; rfl)
      case hy38 => (refine Or.inl ⟨by rfl, ?_⟩; intro W hSw; (obtain ⟨c0, z0, z1, z2, q1, q2, q3⟩ := FQ.out _ hSw.1; clear hSw); go_simp; (try with_reducible rfl))
      try simp only [Act.put, List.setIfInBounds_toArray, List.set_cons_zero, List.set_cons_succ]
      refine wpU_take (i := 1) (oi := ?oi39) (v := ?v39) ?hi39 (by kernel_rfl) (by kernel_rfl) (by kernel_rfl) ?hy39 ?rest39
      case hi39 => (simp only [List.getElem?_toArray, List.getElem?_cons_succ, List.getElem?_cons_zero]; rfl)
      case hy39 => (refine Or.inl ⟨by rfl, ?_⟩; intro W hSw; (obtain ⟨c0, z0, z1, z2, q1, q2, q3⟩ := FQ.out _ hSw.1; clear hSw); go_simp; (try with_reducible rfl))
      try simp only [Act.put, List.setIfInBounds_toArray, List.set_cons_zero, List.set_cons_succ]
      refine wpU_take (i := 2) (oi := ?oi40) (v := ?v40) ?hi40 (by kernel_rfl) (by kernel_rfl) (by kernel_rfl) ?hy40 ?rest40
      case hi40 => (simp only [List.getElem?_toArray, List.getElem?_cons_succ, List.getElem?_cons_zero]; rfl)
      case hy40 => (refine Or.inl ⟨by rfl, ?_⟩; intro W hSw; (obtain ⟨c0, z0, z1, z2, q1, q2, q3⟩ := FQ.out _ hSw.1; clear hSw); go_simp; (try with_reducible rfl))
      try simp only [Act.put, List.setIfInBounds_toArray, List.set_cons_zero, List.set_cons_succ]
      refine wpU_take (i := 3) (oi := ?oi41) (v := ?v41) ?hi41 (by kernel_rfl) (by kernel_rfl) (by kernel_rfl) ?hy41 ?rest41
      case hi41 => (simp only [List.getElem?_toArray, List.getElem?_cons_succ, List.getElem?_cons_zero]; rfl)
      case hy41 => (refine Or.inl ⟨by rfl, ?_⟩; intro W hSw; (obtain ⟨c0, z0, z1, z2, q1, q2, q3⟩ := FQ.out _ hSw.1; clear hSw); go_simp; (try with_reducible rfl))
      try simp only [Act.put, List.setIfInBounds_toArray, List.set_cons_zero, List.set_cons_succ]
      refine wpU_take (i := 4) (oi := ?oi42) (v := ?v42) ?hi42 (by kernel_rfl) (by kernel_rfl) (by kernel_rfl) ?hy42 ?rest42
      case hi42 => (simp only [List.getElem?_toArray, List.getElem?_cons_succ, List.getElem?_cons_zero]; rfl)
      case hy42 => (refine Or.inl ⟨by rfl, ?_⟩; intro W hSw; (obtain ⟨c0, z0, z1, z2, q1, q2, q3⟩ := FQ.out _ hSw.1; clear hSw); go_simp; (try with_reducible rfl))
      try simp only [Act.put, List.setIfInBounds_toArray, List.set_cons_zero, List.set_cons_succ]
      refine wpU_take (i := 5) (oi := ?oi43) (v := ?v43) ?hi43 (by kernel_rfl) (by kernel_rfl) (by kernel_rfl) ?hy43 ?rest43
      case hi43 => (simp only [List.getElem?_toArray, List.getElem?_cons_succ, List.getElem?_cons_zero]; rfl)
      case hy43 => (refine Or.inl ⟨by rfl, ?_⟩; intro W hSw; (obtain ⟨c0, z0, z1, z2, q1, q2, q3⟩ := FQ.out _ hSw.1; clear hSw); go_simp; (try with_reducible rfl))
      try simp only [Act.put, List.setIfInBounds_toArray, List.set_cons_zero, List.set_cons_succ]
      refine wpU_take (i := 6) (oi := ?oi44) (v := ?v44) ?hi44 (by kernel_rfl) (by kernel_rfl) (by kernel_rfl) ?hy44 ?rest44
      case hi44 => (simp only [List.getElem?_toArray, List.getElem?_cons_succ, List.getElem?_cons_zero]; rfl)
      case hy44 => (refine Or.inl ⟨by rfl, ?_⟩; intro W hSw; (obtain ⟨c0, z0, z1, z2, q1, q2, q3⟩ := FQ.out _ hSw.1; clear hSw); go_simp; (try with_reducible rfl))
      try simp only [Act.put, List.setIfInBounds_toArray, List.set_cons_zero, List.set_cons_succ]
      refine wpU_take (i := 7) (oi := ?oi45) (v := ?v45) ?hi45 (by kernel_rfl) (by kernel_rfl) (by kernel_rfl) ?hy45 ?rest45
      case hi45 => (simp only [List.getElem?_toArray, List.getElem?_cons_succ, List.getElem?_cons_zero]; rfl)
      case hy45 => (refine Or.inl ⟨by rfl, ?_⟩; intro W hSw; (obtain ⟨c0, z0, z1, z2, q1, q2, q3⟩ := FQ.out _ hSw.1; clear hSw); go_simp; (try with_reducible rfl))
      try simp only [Act.put, List.setIfInBounds_toArray, List.set_cons_zero, List.set_cons_succ]
      refine wpU_take (i := 8) (oi := ?oi46) (v := ?v46) ?hi46 (by kernel_rfl) (by kernel_rfl) (by kernel_rfl) ?hy46 ?rest46
      case hi46 => (simp only [List.getElem?_toArray, List.getElem?_cons_succ, List.getElem?_cons_zero]; rfl)
      case hy46 => (refine Or.inl ⟨by rfl, ?_⟩; intro W hSw; (obtain ⟨c0, z0, z1, z2, q1, q2, q3⟩ := FQ.out _ hSw.1; clear hSw); go_simp; (try with_reducible rfl))
      try simp only [Act.put, List.setIfInBounds_toArray, List.set_cons_zero, List.set_cons_succ]
      refine wpU_take (i := 9) (oi := ?oi47) (v := ?v47) ?hi47 (by kernel_rfl) (by kernel_rfl) (by kernel_rfl) ?hy47 ?rest47
      case hi47 => (simp only [List.getElem?_toArray, List.getElem?_cons_succ, List.getElem?_cons_zero]; rfl)
      case hy47 => (refine Or.inl ⟨by rfl, ?_⟩; intro W hSw; (obtain ⟨c0, z0, z1, z2, q1, q2, q3⟩ := FQ.out _ hSw.1; clear hSw); go_simp; (try with_reducible rfl))
      try simp only [Act.put, List.setIfInBounds_toArray, List.set_cons_zero, List.set_cons_succ]
      refine wpU_take (i := 10) (oi := ?oi48) (v := ?v48) ?hi48 (by kernel_rfl) (by kernel_rfl) (by kernel_rfl) ?hy48 ?rest48
      case hi48 => (simp only [List.getElem?_toArray, List.getElem?_cons_succ, List.getElem?_cons_zero]; rfl)
      case hy48 => (refine Or.inl ⟨by rfl, ?_⟩; intro W hSw; (obtain ⟨c0, z0, z1, z2, q1, q2, q3⟩ := FQ.out _ hSw.1; clear hSw); go_simp; (try with_reducible rfl))
      try simp only [Act.put, List.setIfInBounds_toArray, List.set_cons_zero, List.set_cons_succ]
      refine wpU_take (i := 11) (oi := ?oi49) (v := ?v49) ?hi49 (by kernel_rfl) (by kernel_rfl) (by kernel_rfl) ?hy49 ?rest49
      case hi49 => (simp only [List.getElem?_toArray, List.getElem?_cons_succ, List.getElem?_cons_zero]; rfl)
      case hy49 => (refine Or.inl ⟨by rfl, ?_⟩; intro W hSw; (obtain ⟨c0, z0, z1, z2, q1, q2, q3⟩ := FQ.out _ hSw.1; clear hSw); go_simp; (try with_reducible rfl))
      try simp only [Act.put, List.setIfInBounds_toArray, List.set_cons_zero, List.set_cons_succ]
      refine wpU_take (i := 12) (oi := ?oi50) (v := ?v50) ?hi50 (by kernel_rfl) (by kernel_rfl) (by kernel_rfl) ?hy50 ?rest50
      case hi50 => (simp only [List.getElem?_toArray, List.getElem?_cons_succ, List.getElem?_cons_zero]; rfl)
      case hy50 => (refine Or.inl ⟨by rfl, ?_⟩; intro W hSw; (obtain ⟨c0, z0, z1, z2, q1, q2, q3⟩ := FQ.out _ hSw.1; clear hSw); go_simp; (try with_reducible rfl))
      try simp only [Act.put, List.setIfInBounds_toArray, List.set_cons_zero, List.set_cons_succ]
      refine wpU_take (i := 13) (oi := ?oi51) (v := ?v51) ?hi51 (by kernel_rfl) (by kernel_rfl) (by kernel_rfl) ?hy51 ?rest51
      case hi51 => (simp only [List.getElem?_toArray, List.getElem?_cons_succ, List.getElem?_cons_zero]; rfl)
      case hy51 => (refine Or.inl ⟨by rfl, ?_⟩; intro W hSw; (obtain ⟨c0, z0, z1, z2, q1, q2, q3⟩ := FQ.out _ hSw.1; clear hSw); go_simp; (try with_reducible rfl))
      try simp only [Act.put, List.setIfInBounds_toArray, List.set_cons_zero, List.set_cons_succ]
      refine wpU_take (i := 14) (oi := ?oi52) (v := ?v52) ?hi52 (by kernel_rfl) (by kernel_rfl) (by kernel_rfl) ?hy52 ?rest52
      case hi52 => (simp only [List.getElem?_toArray, List.getElem?_cons_succ, List.getElem?_cons_zero]; rfl)
      case hy52 => (refine Or.inl ⟨by rfl, ?_⟩; intro W hSw; (obtain ⟨c0, z0, z1, z2, q1, q2, q3⟩ := FQ.out _ hSw.1; clear hSw); go_simp; (try with_reducible rfl))
      try simp only [Act.put, List.setIfInBounds_toArray, List.set_cons_zero, List.set_cons_succ]
      refine wpU_done (by kernel_rfl) ?_ _
      intro W6 hSw
      clear HB HOW HSZ c0 z0 z1 z2 q1 q2 q3
      have HB := Lib.hid hSw.1
      have HOW := Lib.hid hSw.2.1
      have HSZ := Lib.hid hSw.2.2
      clear hSw
      obtain ⟨c0, z0, z1, z2, q1, q2, q3⟩ := FQ.out W6 HB.out
      generalize hcv : (Op.bytesLess x f.n || x == f.n) = cv
      rw [HTL.out] at hcv
      by_cases hle : x ≤ f.n
      case pos =>
        have HLE := Lib.hid hle
        rw [decide_eq_true hle] at hcv
        subst hcv
        have HSE : Hid (SLF x = .slice va bl vc) := Lib.hid (by rw [HSLF.out]; simp only [if_true])
        clear hle
        have hown := HOW.out
        go_wp2_with (at_builtin; go_loud (refine wpList_append_own _ rfl _ _ 29 rfl (w.heap.size + 1) 68 i0 (.agg #[.string ⟨#[]⟩, .slice none 0 0, .int .i64 0]) 3 48 Try.underlying29 hi hz0 hz1 hz2 rfl (by decide) _ _ _ rfl (hown.alloc _) ⟨W6.heap.size, 0, none⟩ 1 1 [.string ⟨x.toArray⟩, .slice va bl vc, .int .i64 (s : Int)] rfl rfl (cells_new _ _ _) ?c2 ?c3 ?c4 ?c5 ?_))
        case c2 => (intro u hu; simp only [List.mem_cons, List.not_mem_nil, or_false] at hu; rcases hu with rfl | rfl | rfl <;> rfl)
        case c3 => (unfold maxLen; omega)
        case c4 => omega
        case c5 => (have := HSZ.out; simp; omega)
        intro lv2 W7 hown' hg3 hnil3
        have hrw : W7.ownsRow (w.heap.size + 1) 68 3 lv2 (A ++ [(⟨x, b, s⟩ : Fl)]).length (fcells SLF (A ++ [(⟨x, b, s⟩ : Fl)])) := by
          rw [fcells_snoc, List.length_append]
          unfold fcell
          rw [HSE.out]
          exact hown'
        have hbn : Below (w.heap.size + 1) WA W7 := (HB.out.alloc HSZ.out _).grown hg3 (by have := HSZ.out; simp; omega) (fun j hj => (hown.lt j hj).1)
        have hsn : w.heap.size + 1 ≤ W7.heap.size := by have h1 := hg3.size; have h2 := HSZ.out; rw [World.size_alloc] at h1; omega
        obtain ⟨lx, ly, hle⟩ := (Rd.of_own hrw).slice
        subst hle
        clear hown hown' hg3 hnil3 HOW HB HSZ HSE c0 z0 z1 z2 q1 q2 q3
        have HOW := Lib.hid hrw
        have HB := Lib.hid hbn
        have HSZ := Lib.hid hsn
        clear hrw hbn hsn
        obtain ⟨A2, hA2⟩ : ∃ A2, A2 = A ++ [(⟨x, b, s⟩ : Fl)] := ⟨_, rfl⟩
        have hAl2 : A2.length = A.length + 1 := by rw [hA2]; simp
        have HA2 := Lib.hid hA2
        have hell : A.length + 1 = A2.length := hAl2.symm
        rw [← hA2] at HOW
        (try rw [← hA2])
        (try rw [hell])
        have hAl3 : A2.length ≤ 2 * k + 1 := by omega
        clear hA2 hell hAl2
        by_cases hn : f.n = x
        case pos =>
          have HNX : Hid (A2 ++ gl ⟨x, b, s⟩ true (st.fs.drop (k + 1)) = T) := Lib.hid (by rw [HA2.out]; rw [← HA.out, gl_cons]; (try simp only); rw [if_pos hn]; simp [HLE.out])
          have hne : (f.n == x) = true := by simpa using hn
          have hne2 := str_eq hne
          have hne3 := hn
          clear hn
          obtain ⟨c0, z0, z1, z2, q1, q2, q3⟩ := FQ.out W7 HB.out
          go_wp2_with fail
          refine wp_region_U (S := (fun W => Below (w.heap.size + 1) WA W ∧ W.ownsRow (w.heap.size + 1) 68 3 (.slice lx A2.length ly) A2.length (fcells SLF A2) ∧ w.heap.size + 1 ≤ W.heap.size)) (by kernel_rfl) ?_ ?_
          · exact ⟨HB.out.drew, HOW.out, HSZ.out⟩
          refine wpU_take (i := 0) (oi := ?oi53) (v := ?v53) ?hi53 (by kernel_rfl) (by kernel_rfl) (by kernel_rfl) ?hy53 ?rest53
          case hi53 => (simp only [List.getElem?_toArray, List.getElem?_cons_succ, List.getElem?_cons_zero]; rfl)
          case hy53 => (refine Or.inl ⟨by rfl, ?_⟩; intro W hSw; (obtain ⟨c0, z0, z1, z2, q1, q2, q3⟩ := FQ.out _ hSw.1; clear hSw); go_simp; (try with_reducible rfl))
          try simp only [Act.put, List.setIfInBounds_toArray, List.set_cons_zero, List.set_cons_succ]
          refine wpU_take (i := 1) (oi := ?oi54) (v := ?v54) ?hi54 (by kernel_rfl) (by kernel_rfl) (by kernel_rfl) ?hy54 ?rest54
          case hi54 => (simp only [List.getElem?_toArray, List.getElem?_cons_succ, List.getElem?_cons_zero]; rfl)
          case hy54 => (refine Or.inl ⟨by rfl, ?_⟩; intro W hSw; (obtain ⟨c0, z0, z1, z2, q1, q2, q3⟩ := FQ.out _ hSw.1; clear hSw); go_simp; (try with_reducible rfl))
          try simp only [Act.put, List.setIfInBounds_toArray, List.set_cons_zero, List.set_cons_succ]
          refine wpU_take (i := 2) (oi := ?oi55) (v := ?v55) ?hi55 (by kernel_rfl) (by kernel_rfl) (by kernel_rfl) ?hy55 ?rest55
          case hi55 => (simp only [List.getElem?_toArray, List.getElem?_cons_succ, List.getElem?_cons_zero]; rfl)
          case hy55 => (refine Or.inl ⟨by rfl, ?_⟩; intro W hSw; (obtain ⟨c0, z0, z1, z2, q1, q2, q3⟩ := FQ.out _ hSw.1; clear hSw); go_simp; (try with_reducible rfl))
          try simp only [Act.put, List.setIfInBounds_toArray, List.set_cons_zero, List.set_cons_succ]
          refine wpU_take (i := 3) (oi := ?oi56) (v := ?v56) ?hi56 (by kernel_rfl) (by kernel_rfl) (by kernel_rfl) ?hy56 ?rest56
          case hi56 => (simp only [List.getElem?_toArray, List.getElem?_cons_succ, List.getElem?_cons_zero]; rfl)
          case hy56 => (refine Or.inl ⟨by rfl, ?_⟩; intro W hSw; (obtain ⟨c0, z0, z1, z2, q1, q2, q3⟩ := FQ.out _ hSw.1; clear hSw); go_simp; (try with_reducible rfl))
          try simp only [Act.put, List.setIfInBounds_toArray, List.set_cons_zero, List.set_cons_succ]
          refine wpU_take (i := 4) (oi := ?oi57) (v := ?v57) ?hi57 (by kernel_rfl) (by kernel_rfl) (by kernel_rfl) ?hy57 ?rest57
          case hi57 => (simp only [List.getElem?_toArray, List.getElem?_cons_succ, List.getElem?_cons_zero]; rfl)
          case hy57 => (refine Or.inl ⟨by rfl, ?_⟩; intro W hSw; (obtain ⟨c0, z0, z1, z2, q1, q2, q3⟩ := FQ.out _ hSw.1; clear hSw); go_simp; (try with_reducible rfl))
          try simp only [Act.put, List.setIfInBounds_toArray, List.set_cons_zero, List.set_cons_succ]
          refine wpU_take (i := 5) (oi := ?oi58) (v := ?v58) ?hi58 (by kernel_rfl) (by kernel_rfl) (by kernel_rfl) ?hy58 ?rest58
          case hi58 => (simp only [List.getElem?_toArray, List.getElem?_cons_succ, List.getElem?_cons_zero]; rfl)
          case hy58 => (refine Or.inl ⟨by rfl, ?_⟩; intro W hSw; (obtain ⟨c0, z0, z1, z2, q1, q2, q3⟩ := FQ.out _ hSw.1; clear hSw); go_simp; (try with_reducible rfl))
          try simp only [Act.put, List.setIfInBounds_toArray, List.set_cons_zero, List.set_cons_succ]
          refine wpU_take (i := 6) (oi := ?oi59) (v := ?v59) ?hi59 (by kernel_rfl) (by kernel_rfl) (by kernel_rfl) ?hy59 ?rest59
          case hi59 => (simp only [List.getElem?_toArray, List.getElem?_cons_succ, List.getElem?_cons_zero]; rfl)
          case hy59 => (refine Or.inl ⟨by rfl, ?_⟩; intro W hSw; (obtain ⟨c0, z0, z1, z2, q1, q2, q3⟩ := FQ.out _ hSw.1; clear hSw); go_simp; (try with_reducible rfl))
          try simp only [Act.put, List.setIfInBounds_toArray, List.set_cons_zero, List.set_cons_succ]
          refine wpU_take (i := 7) (oi := ?oi60) (v := ?v60) ?hi60 (by kernel_rfl) (by kernel_rfl) (by kernel_rfl) ?hy60 ?rest60
          case hi60 => (simp only [List.getElem?_toArray, List.getElem?_cons_succ, List.getElem?_cons_zero]; rfl)
          case hy60 => (refine Or.inl ⟨by rfl, ?_⟩; intro W hSw; (obtain ⟨c0, z0, z1, z2, q1, q2, q3⟩ := FQ.out _ hSw.1; clear hSw); go_simp; (try with_reducible rfl))
          try simp only [Act.put, List.setIfInBounds_toArray, List.set_cons_zero, List.set_cons_succ]
          refine wpU_take (i := 8) (oi := ?oi61) (v := ?v61) ?hi61 (by kernel_rfl) (by kernel_rfl) (by kernel_rfl) ?hy61 ?rest61
          case hi61 => (simp only [List.getElem?_toArray, List.getElem?_cons_succ, List.getElem?_cons_zero]; rfl)
          case hy61 => (refine Or.inl ⟨by rfl, ?_⟩; intro W hSw; (obtain ⟨c0, z0, z1, z2, q1, q2, q3⟩ := FQ.out _ hSw.1; clear hSw); go_simp; (try with_reducible rfl))
          try simp only [Act.put, List.setIfInBounds_toArray, List.set_cons_zero, List.set_cons_succ]
          refine wpU_take (i := 9) (oi := ?oi62) (v := ?v62) ?hi62 (by kernel_rfl) (by kernel_rfl) (by kernel_rfl) ?hy62 ?rest62
          case hi62 => (simp only [List.getElem?_toArray, List.getElem?_cons_succ, List.getElem?_cons_zero]; rfl)
          case hy62 => (refine Or.inl ⟨by rfl, ?_⟩; intro W hSw; (obtain ⟨c0, z0, z1, z2, q1, q2, q3⟩ := FQ.out _ hSw.1; clear hSw); go_simp; (try with_reducible rfl))
          try simp only [Act.put, List.setIfInBounds_toArray, List.set_cons_zero, List.set_cons_succ]
          refine wpU_take (i := 10) (oi := ?oi63) (v := ?v63) ?hi63 (by kernel_rfl) (by kernel_rfl) (by kernel_rfl) ?hy63 ?rest63
          case hi63 => (simp only [List.getElem?_toArray, List.getElem?_cons_succ, List.getElem?_cons_zero]; rfl)
          case hy63 => (refine Or.inl ⟨by rfl, ?_⟩; intro W hSw; (obtain ⟨c0, z0, z1, z2, q1, q2, q3⟩ := FQ.out _ hSw.1; clear hSw); go_simp; (try with_reducible rfl))
          try simp only [Act.put, List.setIfInBounds_toArray, List.set_cons_zero, List.set_cons_succ]
          refine wpU_done (by kernel_rfl) ?_ _
          intro W9 hSw
          clear HB HOW HSZ c0 z0 z1 z2 q1 q2 q3
          have HB := Lib.hid hSw.1
          have HOW := Lib.hid hSw.2.1
          have HSZ := Lib.hid hSw.2.2
          clear hSw
          obtain ⟨c0, z0, z1, z2, q1, q2, q3⟩ := FQ.out W9 HB.out
          go_wp2_with fail
          go_roundw
          case rel => exact ⟨k + 1, true, A2, by omega, by go_num, rfl, HOW.out, HB.out, HSZ.out, HNX.out, by first | omega | (simp; omega)⟩
          case measure => simp [intOf]; omega
        case neg =>
          have HNX : Hid ((A2 ++ [f]) ++ gl ⟨x, b, s⟩ true (st.fs.drop (k + 1)) = T) := Lib.hid (by rw [HA2.out]; rw [← HA.out, gl_cons]; (try simp only); rw [if_neg hn]; simp [HLE.out])
          have HSE : Hid (SLF f.n = .slice ga f.b.length gc) := Lib.hid (by rw [HSLF.out]; simp only [if_neg hn]; exact HF.out.2)
          have hne : (f.n == x) = false := by simpa using hn
          have hne2 := str_ne hne
          clear hn
          obtain ⟨c0, z0, z1, z2, q1, q2, q3⟩ := FQ.out W7 HB.out
          go_wp2_with fail
          refine wp_region_U (S := (fun W => Below (w.heap.size + 1) WA W ∧ W.ownsRow (w.heap.size + 1) 68 3 (.slice lx A2.length ly) A2.length (fcells SLF A2) ∧ w.heap.size + 1 ≤ W.heap.size)) (by kernel_rfl) ?_ ?_
          · exact ⟨HB.out.drew, HOW.out, HSZ.out⟩
          refine wpU_take (i := 0) (oi := ?oi64) (v := ?v64) ?hi64 (by kernel_rfl) (by kernel_rfl) (by kernel_rfl) ?hy64 ?rest64
          case hi64 => (simp only [List.getElem?_toArray, List.getElem?_cons_succ, List.getElem?_cons_zero]; rfl)
          case hy64 => (refine Or.inl ⟨by rfl, ?_⟩; intro W hSw; (obtain ⟨c0, z0, z1, z2, q1, q2, q3⟩ := FQ.out _ hSw.1; clear hSw); go_simp; (try with_reducible rfl))
          try simp only [Act.put, List.setIfInBounds_toArray, List.set_cons_zero, List.set_cons_succ]
          refine wpU_take (i := 1) (oi := ?oi65) (v := ?v65) ?hi65 (by kernel_rfl) (by kernel_rfl) (by kernel_rfl) ?hy65 ?rest65
          case hi65 => (simp only [List.getElem?_toArray, List.getElem?_cons_succ, List.getElem?_cons_zero]; rfl)
          case hy65 => (refine Or.inl ⟨by rfl, ?_⟩; intro W hSw; (obtain ⟨c0, z0, z1, z2, q1, q2, q3⟩ := FQ.out _ hSw.1; clear hSw); go_simp; (try with_reducible rfl))
          try simp only [Act.put, List.setIfInBounds_toArray, List.set_cons_zero, List.set_cons_succ]
          refine wpU_take (i := 2) (oi := ?oi66) (v := ?v66) ?hi66 (by kernel_rfl) (by kernel_rfl) (by kernel_rfl) ?hy66 ?rest66
          case hi66 => (simp only [List.getElem?_toArray, List.getElem?_cons_succ, List.getElem?_cons_zero]; rfl)
          case hy66 => (refine Or.inl ⟨by rfl, ?_⟩; intro W hSw; (obtain ⟨c0, z0, z1, z2, q1, q2, q3⟩ := FQ.out _ hSw.1; clear hSw); go_simp; (try with_reducible rfl))
          try simp only [Act.put, List.setIfInBounds_toArray, List.set_cons_zero, List.set_cons_succ]
          refine wpU_take (i := 3) (oi := ?oi67) (v := ?v67) ?hi67 (by kernel_rfl) (by kernel_rfl) (by kernel_rfl) ?hy67 ?rest67
          case hi67 => (simp only [List.getElem?_toArray, List.getElem?_cons_succ, List.getElem?_cons_zero]; rfl)
          case hy67 => (refine Or.inl ⟨by rfl, ?_⟩; intro W hSw; (obtain ⟨c0, z0, z1, z2, q1, q2, q3⟩ := FQ.out _ hSw.1; clear hSw); go_simp; (try with_reducible rfl))
          try simp only [Act.put, List.setIfInBounds_toArray, List.set_cons_zero, List.set_cons_succ]
          refine wpU_take (i := 4) (oi := ?oi68) (v := ?v68) ?hi68 (by kernel_rfl) (by kernel_rfl) (by kernel_rfl) ?hy68 ?rest68
          case hi68 => (simp only [List.getElem?_toArray, List.getElem?_cons_succ, List.getElem?_cons_zero]; rfl)
          case hy68 => (refine Or.inl ⟨by rfl, ?_⟩; intro W hSw; (obtain ⟨c0, z0, z1, z2, q1, q2, q3⟩ := FQ.out _ hSw.1; clear hSw); go_simp; (try with_reducible rfl))
          try simp only [Act.put, List.setIfInBounds_toArray, List.set_cons_zero, List.set_cons_succ]
          refine wpU_take (i := 5) (oi := ?oi69) (v := ?v69) ?hi69 (by kernel_rfl) (by kernel_rfl) (by kernel_rfl) ?hy69 ?rest69
          case hi69 => (simp only [List.getElem?_toArray, List.getElem?_cons_succ, List.getElem?_cons_zero]; rfl)
          case hy69 => (refine Or.inl ⟨by rfl, ?_⟩; intro W hSw; (obtain ⟨c0, z0, z1, z2, q1, q2, q3⟩ := FQ.out _ hSw.1; clear hSw); go_simp; (try with_reducible rfl))
          try simp only [Act.put, List.setIfInBounds_toArray, List.set_cons_zero, List.set_cons_succ]
          refine wpU_take (i := 6) (oi := ?oi70) (v := ?v70) ?hi70 (by kernel_rfl) (by kernel_rfl) (by kernel_rfl) ?hy70 ?rest70
          case hi70 => (simp only [List.getElem?_toArray, List.getElem?_cons_succ, List.getElem?_cons_zero]; rfl)
          case hy70 => (refine Or.inl ⟨by rfl, ?_⟩; intro W hSw; (obtain ⟨c0, z0, z1, z2, q1, q2, q3⟩ := FQ.out _ hSw.1; clear hSw); go_simp; (try with_reducible rfl))
          try simp only [Act.put, List.setIfInBounds_toArray, List.set_cons_zero, List.set_cons_succ]
          refine wpU_take (i := 7) (oi := ?oi71) (v := ?v71) ?hi71 (by kernel_rfl) (by kernel_rfl) (by kernel_rfl) ?hy71 ?rest71
          case hi71 => (simp only [List.getElem?_toArray, List.getElem?_cons_succ, List.getElem?_cons_zero]; rfl)
          case hy71 => (refine Or.inl ⟨by rfl, ?_⟩; intro W hSw; (obtain ⟨c0, z0, z1, z2, q1, q2, q3⟩ := FQ.out _ hSw.1; clear hSw); go_simp; (try with_reducible rfl))
          try simp only [Act.put, List.setIfInBounds_toArray, List.set_cons_zero, List.set_cons_succ]
          refine wpU_take (i := 8) (oi := ?oi72) (v := ?v72) ?hi72 (by kernel_rfl) (by kernel_rfl) (by kernel_rfl) ?hy72 ?rest72
          case hi72 => (simp only [List.getElem?_toArray, List.getElem?_cons_succ, List.getElem?_cons_zero]; rfl)
          case hy72 => (refine Or.inl ⟨by rfl, ?_⟩; intro W hSw; (obtain ⟨c0, z0, z1, z2, q1, q2, q3⟩ := FQ.out _ hSw.1; clear hSw); go_simp; (try with_reducible rfl))
          try simp only [Act.put, List.setIfInBounds_toArray, List.set_cons_zero, List.set_cons_succ]
          refine wpU_take (i := 9) (oi := ?oi73) (v := ?v73) ?hi73 (by kernel_rfl) (by kernel_rfl) (by kernel_rfl) ?hy73 ?rest73
          case hi73 => (simp only [List.getElem?_toArray, List.getElem?_cons_succ, List.getElem?_cons_zero]; rfl)
          case hy73 => (refine Or.inl ⟨by rfl, ?_⟩; intro W hSw; (obtain ⟨c0, z0, z1, z2, q1, q2, q3⟩ := FQ.out _ hSw.1; clear hSw); go_simp; (try with_reducible rfl))
          try simp only [Act.put, List.setIfInBounds_toArray, List.set_cons_zero, List.set_cons_succ]
          refine wpU_take (i := 10) (oi := ?oi74) (v := ?v74) ?hi74 (by kernel_rfl) (by kernel_rfl) (by kernel_rfl) ?hy74 ?rest74
          case hi74 => (simp only [List.getElem?_toArray, List.getElem?_cons_succ, List.getElem?_cons_zero]; rfl)
          case hy74 => (refine Or.inl ⟨by rfl, ?_⟩; intro W hSw; (obtain ⟨c0, z0, z1, z2, q1, q2, q3⟩ := FQ.out _ hSw.1; clear hSw); go_simp; (try with_reducible rfl))
          try simp only [Act.put, List.setIfInBounds_toArray, List.set_cons_zero, List.set_cons_succ]
          refine wpU_done (by kernel_rfl) ?_ _
          intro W9 hSw
          clear HB HOW HSZ c0 z0 z1 z2 q1 q2 q3
          have HB := Lib.hid hSw.1
          have HOW := Lib.hid hSw.2.1
          have HSZ := Lib.hid hSw.2.2
          clear hSw
          obtain ⟨c0, z0, z1, z2, q1, q2, q3⟩ := FQ.out W9 HB.out
          have hown := HOW.out
          go_wp2_with (at_builtin; go_loud (refine wpList_append_own _ rfl _ _ 29 rfl (w.heap.size + 1) 68 i0 (.agg #[.string ⟨#[]⟩, .slice none 0 0, .int .i64 0]) 3 48 Try.underlying29 hi hz0 hz1 hz2 rfl (by decide) _ _ _ rfl (hown.alloc _) ⟨W9.heap.size, 0, none⟩ 1 1 [.string ⟨f.n.toArray⟩, .slice ga f.b.length gc, .int .i64 (f.s : Int)] rfl rfl (cells_new _ _ _) ?c2 ?c3 ?c4 ?c5 ?_))
          case c2 => (intro u hu; simp only [List.mem_cons, List.not_mem_nil, or_false] at hu; rcases hu with rfl | rfl | rfl <;> rfl)
          case c3 => (unfold maxLen; omega)
          case c4 => omega
          case c5 => (have := HSZ.out; simp; omega)
          intro lv2 W10 hown' hg3 hnil3
          have hrw : W10.ownsRow (w.heap.size + 1) 68 3 lv2 (A2 ++ [f]).length (fcells SLF (A2 ++ [f])) := by
            rw [fcells_snoc, List.length_append]
            unfold fcell
            rw [HSE.out]
            exact hown'
          have hbn : Below (w.heap.size + 1) WA W10 := (HB.out.alloc HSZ.out _).grown hg3 (by have := HSZ.out; simp; omega) (fun j hj => (hown.lt j hj).1)
          have hsn : w.heap.size + 1 ≤ W10.heap.size := by have h1 := hg3.size; have h2 := HSZ.out; rw [World.size_alloc] at h1; omega
          obtain ⟨lb, ld, hle⟩ := (Rd.of_own hrw).slice
          subst hle
          clear hown hown' hg3 hnil3 HOW HB HSZ HSE c0 z0 z1 z2 q1 q2 q3
          have HOW := Lib.hid hrw
          have HB := Lib.hid hbn
          have HSZ := Lib.hid hsn
          clear hrw hbn hsn
          go_wp2_with fail
          go_roundw
          case rel => exact ⟨k + 1, true, A2 ++ [f], by omega, by go_num, rfl, HOW.out, HB.out, HSZ.out, HNX.out, by first | omega | (simp; omega)⟩
          case measure => simp [intOf]; omega
      case neg =>
        have HLE := Lib.hid hle
        rw [decide_eq_false hle] at hcv
        subst hcv
        clear hle
        by_cases hn : f.n = x
        case pos =>
          have HNX : Hid (A ++ gl ⟨x, b, s⟩ false (st.fs.drop (k + 1)) = T) := Lib.hid (by rw [← HA.out, gl_cons]; (try simp only); rw [if_pos hn]; simp [HLE.out])
          have hne : (f.n == x) = true := by simpa using hn
          have hne2 := str_eq hne
          have hne3 := hn
          clear hn
          obtain ⟨c0, z0, z1, z2, q1, q2, q3⟩ := FQ.out W6 HB.out
          go_wp2_with fail
          refine wp_region_U (S := (fun W => Below (w.heap.size + 1) WA W ∧ W.ownsRow (w.heap.size + 1) 68 3 (.slice la A.length lc) A.length (fcells SLF A) ∧ w.heap.size + 1 ≤ W.heap.size)) (by kernel_rfl) ?_ ?_
          · exact ⟨HB.out.drew, HOW.out, HSZ.out⟩
          refine wpU_take (i := 0) (oi := ?oi75) (v := ?v75) ?hi75 (by kernel_rfl) (by kernel_rfl) (by kernel_rfl) ?hy75 ?rest75
          case hi75 => (simp only [List.getElem?_toArray, List.getElem?_cons_succ, List.getElem?_cons_zero]; rfl)
          case hy75 => (refine Or.inl ⟨by rfl, ?_⟩; intro W hSw; (obtain ⟨c0, z0, z1, z2, q1, q2, q3⟩ := FQ.out _ hSw.1; clear hSw); go_simp; (try with_reducible rfl))
          try simp only [Act.put, List.setIfInBounds_toArray, List.set_cons_zero, List.set_cons_succ]
          refine wpU_take (i := 1) (oi := ?oi76) (v := ?v76) ?hi76 (by kernel_rfl) (by kernel_rfl) (by kernel_rfl) ?hy76 ?rest76
          case hi76 => (simp only [List.getElem?_toArray, List.getElem?_cons_succ, List.getElem?_cons_zero]; rfl)
          case hy76 => (refine Or.inl ⟨by rfl, ?_⟩; intro W hSw; (obtain ⟨c0, z0, z1, z2, q1, q2, q3⟩ := FQ.out _ hSw.1; clear hSw); go_simp; (try with_reducible rfl))
          try simp only [Act.put, List.setIfInBounds_toArray, List.set_cons_zero, List.set_cons_succ]
          refine wpU_take (i := 2) (oi := ?oi77) (v := ?v77) ?hi77 (by kernel_rfl) (by kernel_rfl) (by kernel_rfl) ?hy77 ?rest77
          case hi77 => (simp only [List.getElem?_toArray, List.getElem?_cons_succ, List.getElem?_cons_zero]; rfl)
          case hy77 => (refine Or.inl ⟨by rfl, ?_⟩; intro W hSw; (obtain ⟨c0, z0, z1, z2, q1, q2, q3⟩ := FQ.out _ hSw.1; clear hSw); go_simp; (try with_reducible rfl))
          try simp only [Act.put, List.setIfInBounds_toArray, List.set_cons_zero, List.set_cons_succ]
          refine wpU_take (i := 3) (oi := ?oi78) (v := ?v78) ?hi78 (by kernel_rfl) (by kernel_rfl) (by kernel_rfl) ?hy78 ?rest78
          case hi78 => (simp only [List.getElem?_toArray, List.getElem?_cons_succ, List.getElem?_cons_zero]; rfl)
          case hy78 => (refine Or.inl ⟨by rfl, ?_⟩; intro W hSw; (obtain ⟨c0, z0, z1, z2, q1, q2, q3⟩ := FQ.out _ hSw.1; clear hSw); go_simp; (try with_reducible rfl))
          try simp only [Act.put, List.setIfInBounds_toArray, List.set_cons_zero, List.set_cons_succ]
          refine wpU_take (i := 4) (oi := ?oi79) (v := ?v79) ?hi79 (by kernel_rfl) (by kernel_rfl) (by kernel_rfl) ?hy79 ?rest79
          case hi79 => (simp only [List.getElem?_toArray, List.getElem?_cons_succ, List.getElem?_cons_zero]; rfl)
          case hy79 => (refine Or.inl ⟨by rfl, ?_⟩; intro W hSw; (obtain ⟨c0, z0, z1, z2, q1, q2, q3⟩ := FQ.out _ hSw.1; clear hSw); go_simp; (try with_reducible rfl))
          try simp only [Act.put, List.setIfInBounds_toArray, List.set_cons_zero, List.set_cons_succ]
          refine wpU_take (i := 5) (oi := ?oi80) (v := ?v80) ?hi80 (by kernel_rfl) (by kernel_rfl) (by kernel_rfl) ?hy80 ?rest80
          case hi80 => (simp only [List.getElem?_toArray, List.getElem?_cons_succ, List.getElem?_cons_zero]; rfl)
          case hy80 => (refine Or.inl ⟨by rfl, ?_⟩; intro W hSw; (obtain ⟨c0, z0, z1, z2, q1, q2, q3⟩ := FQ.out _ hSw.1; clear hSw); go_simp; (try with_reducible rfl))
          try simp only [Act.put, List.setIfInBounds_toArray, List.set_cons_zero, List.set_cons_succ]
          refine wpU_take (i := 6) (oi := ?oi81) (v := ?v81) ?hi81 (by kernel_rfl) (by kernel_rfl) (by kernel_rfl) ?hy81 ?rest81
          case hi81 => (simp only [List.getElem?_toArray, List.getElem?_cons_succ, List.getElem?_cons_zero]; rfl)
          case hy81 => (refine Or.inl ⟨by rfl, ?_⟩; intro W hSw; (obtain ⟨c0, z0, z1, z2, q1, q2, q3⟩ := FQ.out _ hSw.1; clear hSw); go_simp; (try with_reducible rfl))
          try simp only [Act.put, List.setIfInBounds_toArray, List.set_cons_zero, List.set_cons_succ]
          refine wpU_take (i := 7) (oi := ?oi82) (v := ?v82) ?hi82 (by kernel_rfl) (by kernel_rfl) (by kernel_rfl) ?hy82 ?rest82
          case hi82 => (simp only [List.getElem?_toArray, List.getElem?_cons_succ, List.getElem?_cons_zero]; rfl)
          case hy82 => (refine Or.inl ⟨by rfl, ?_⟩; intro W hSw; (obtain ⟨c0, z0, z1, z2, q1, q2, q3⟩ := FQ.out _ hSw.1; clear hSw); go_simp; (try with_reducible rfl))
          try simp only [Act.put, List.setIfInBounds_toArray, List.set_cons_zero, List.set_cons_succ]
          refine wpU_take (i := 8) (oi := ?oi83) (v := ?v83) ?hi83 (by kernel_rfl) (by kernel_rfl) (by kernel_rfl) ?hy83 ?rest83
          case hi83 => (simp only [List.getElem?_toArray, List.getElem?_cons_succ, List.getElem?_cons_zero]; rfl)
          case hy83 => (refine Or.inl ⟨by rfl, ?_⟩; intro W hSw; (obtain ⟨c0, z0, z1, z2, q1, q2, q3⟩ := FQ.out _ hSw.1; clear hSw); go_simp; (try with_reducible rfl))
          try simp only [Act.put, List.setIfInBounds_toArray, List.set_cons_zero, List.set_cons_succ]
          refine wpU_take (i := 9) (oi := ?oi84) (v := ?v84) ?hi84 (by kernel_rfl) (by kernel_rfl) (by kernel_rfl) ?hy84 ?rest84
          case hi84 => (simp only [List.getElem?_toArray, List.getElem?_cons_succ, List.getElem?_cons_zero]; rfl)
          case hy84 => (refine Or.inl ⟨by rfl, ?_⟩; intro W hSw; (obtain ⟨c0, z0, z1, z2, q1, q2, q3⟩ := FQ.out _ hSw.1; clear hSw); go_simp; (try with_reducible rfl))
          try simp only [Act.put, List.setIfInBounds_toArray, List.set_cons_zero, List.set_cons_succ]
          refine wpU_take (i := 10) (oi := ?oi85) (v := ?v85) ?hi85 (by kernel_rfl) (by kernel_rfl) (by kernel_rfl) ?hy85 ?rest85
          case hi85 => (simp only [List.getElem?_toArray, List.getElem?_cons_succ, List.getElem?_cons_zero]; rfl)
          case hy85 => (refine Or.inl ⟨by rfl, ?_⟩; intro W hSw; (obtain ⟨c0, z0, z1, z2, q1, q2, q3⟩ := FQ.out _ hSw.1; clear hSw); go_simp; (try with_reducible rfl))
          try simp only [Act.put, List.setIfInBounds_toArray, List.set_cons_zero, List.set_cons_succ]
          refine wpU_done (by kernel_rfl) ?_ _
          intro W9 hSw
          clear HB HOW HSZ c0 z0 z1 z2 q1 q2 q3
          have HB := Lib.hid hSw.1
          have HOW := Lib.hid hSw.2.1
          have HSZ := Lib.hid hSw.2.2
          clear hSw
          obtain ⟨c0, z0, z1, z2, q1, q2, q3⟩ := FQ.out W9 HB.out
          go_wp2_with fail
          go_roundw
          case rel => exact ⟨k + 1, false, A, by omega, by go_num, rfl, HOW.out, HB.out, HSZ.out, HNX.out, by first | omega | (simp; omega)⟩
          case measure => simp [intOf]; omega
        case neg =>
          have HNX : Hid ((A ++ [f]) ++ gl ⟨x, b, s⟩ false (st.fs.drop (k + 1)) = T) := Lib.hid (by rw [← HA.out, gl_cons]; (try simp only); rw [if_neg hn]; simp [HLE.out])
          have HSE : Hid (SLF f.n = .slice ga f.b.length gc) := Lib.hid (by rw [HSLF.out]; simp only [if_neg hn]; exact HF.out.2)
          have hne : (f.n == x) = false := by simpa using hn
          have hne2 := str_ne hne
          clear hn
          obtain ⟨c0, z0, z1, z2, q1, q2, q3⟩ := FQ.out W6 HB.out
          go_wp2_with fail
          refine wp_region_U (S := (fun W => Below (w.heap.size + 1) WA W ∧ W.ownsRow (w.heap.size + 1) 68 3 (.slice la A.length lc) A.length (fcells SLF A) ∧ w.heap.size + 1 ≤ W.heap.size)) (by kernel_rfl) ?_ ?_
          · exact ⟨HB.out.drew, HOW.out, HSZ.out⟩
          refine wpU_take (i := 0) (oi := ?oi86) (v := ?v86) ?hi86 (by kernel_rfl) (by kernel_rfl) (by kernel_rfl) ?hy86 ?rest86
          case hi86 => (simp only [List.getElem?_toArray, List.getElem?_cons_succ, List.getElem?_cons_zero]; rfl)
          case hy86 => (refine Or.inl ⟨by rfl, ?_⟩; intro W hSw; (obtain ⟨c0, z0, z1, z2, q1, q2, q3⟩ := FQ.out _ hSw.1; clear hSw); go_simp; (try with_reducible rfl))
          try simp only [Act.put, List.setIfInBounds_toArray, List.set_cons_zero, List.set_cons_succ]
          refine wpU_take (i := 1) (oi := ?oi87) (v := ?v87) ?hi87 (by kernel_rfl) (by kernel_rfl) (by kernel_rfl) ?hy87 ?rest87
          case hi87 => (simp only [List.getElem?_toArray, List.getElem?_cons_succ, List.getElem?_cons_zero]; rfl)
          case hy87 => (refine Or.inl ⟨by rfl, ?_⟩; intro W hSw; (obtain ⟨c0, z0, z1, z2, q1, q2, q3⟩ := FQ.out _ hSw.1; clear hSw); go_simp; (try with_reducible rfl))
          try simp only [Act.put, List.setIfInBounds_toArray, List.set_cons_zero, List.set_cons_succ]
          refine wpU_take (i := 2) (oi := ?oi88) (v := ?v88) ?hi88 (by kernel_rfl) (by kernel_rfl) (by kernel_rfl) ?hy88 ?rest88
          case hi88 => (simp only [List.getElem?_toArray, List.getElem?_cons_succ, List.getElem?_cons_zero]; rfl)
          case hy88 => (refine Or.inl ⟨by rfl, ?_⟩; intro W hSw; (obtain ⟨c0, z0, z1, z2, q1, q2, q3⟩ := FQ.out _ hSw.1; clear hSw); go_simp; (try with_reducible rfl))
          try simp only [Act.put, List.setIfInBounds_toArray, List.set_cons_zero, List.set_cons_succ]
          refine wpU_take (i := 3) (oi := ?oi89) (v := ?v89) ?hi89 (by kernel_rfl) (by kernel_rfl) (by kernel_rfl) ?hy89 ?rest89
          case hi89 => (simp only [List.getElem?_toArray, List.getElem?_cons_succ, List.getElem?_cons_zero]; rfl)
          case hy89 => (refine Or.inl ⟨by rfl, ?_⟩; intro W hSw; (obtain ⟨c0, z0, z1, z2, q1, q2, q3⟩ := FQ.out _ hSw.1; clear hSw); go_simp; (try with_reducible rfl))
          try simp only [Act.put, List.setIfInBounds_toArray, List.set_cons_zero, List.set_cons_succ]
          refine wpU_take (i := 4) (oi := ?oi90) (v := ?v90) ?hi90 (by kernel_rfl) (by kernel_rfl) (by kernel_rfl) ?hy90 ?rest90
          case hi90 => (simp only [List.getElem?_toArray, List.getElem?_cons_succ, List.getElem?_cons_zero]; rfl)
          case hy90 => (refine Or.inl ⟨by rfl, ?_⟩; intro W hSw; (obtain ⟨c0, z0, z1, z2, q1, q2, q3⟩ := FQ.out _ hSw.1; clear hSw); go_simp; (try with_reducible rfl))
          try simp only [Act.put, List.setIfInBounds_toArray, List.set_cons_zero, List.set_cons_succ]
          refine wpU_take (i := 5) (oi := ?oi91) (v := ?v91) ?hi91 (by kernel_rfl) (by kernel_rfl) (by kernel_rfl) ?hy91 ?rest91
          case hi91 => (simp only [List.getElem?_toArray, List.getElem?_cons_succ, List.getElem?_cons_zero]; rfl)
          case hy91 => (refine Or.inl ⟨by rfl, ?_⟩; intro W hSw; (obtain ⟨c0, z0, z1, z2, q1, q2, q3⟩ := FQ.out _ hSw.1; clear hSw); go_simp; (try with_reducible rfl))
          try simp only [Act.put, List.setIfInBounds_toArray, List.set_cons_zero, List.set_cons_succ]
          refine wpU_take (i := 6) (oi := ?oi92) (v := ?v92) ?hi92 (by kernel_rfl) (by kernel_rfl) (by kernel_rfl) ?hy92 ?rest92
          case hi92 => (simp only [List.getElem?_toArray, List.getElem?_cons_succ, List.getElem?_cons_zero]; rfl)
          case hy92 => (refine Or.inl ⟨by rfl, ?_⟩; intro W hSw; (obtain ⟨c0, z0, z1, z2, q1, q2, q3⟩ := FQ.out _ hSw.1; clear hSw); go_simp; (try with_reducible rfl))
          try simp only [Act.put, List.setIfInBounds_toArray, List.set_cons_zero, List.set_cons_succ]
          refine wpU_take (i := 7) (oi := ?oi93) (v := ?v93) ?hi93 (by kernel_rfl) (by kernel_rfl) (by kernel_rfl) ?hy93 ?rest93
          case hi93 => (simp only [List.getElem?_toArray, List.getElem?_cons_succ, List.getElem?_cons_zero]; rfl)
          case hy93 => (refine Or.inl ⟨by rfl, ?_⟩; intro W hSw; (obtain ⟨c0, z0, z1, z2, q1, q2, q3⟩ := FQ.out _ hSw.1; clear hSw); go_simp; (try with_reducible rfl))
          try simp only [Act.put, List.setIfInBounds_toArray, List.set_cons_zero, List.set_cons_succ]
          refine wpU_take (i := 8) (oi := ?oi94) (v := ?v94) ?hi94 (by kernel_rfl) (by kernel_rfl) (by kernel_rfl) ?hy94 ?rest94
          case hi94 => (simp only [List.getElem?_toArray, List.getElem?_cons_succ, List.getElem?_cons_zero]; rfl)
          case hy94 => (refine Or.inl ⟨by rfl, ?_⟩; intro W hSw; (obtain ⟨c0, z0, z1, z2, q1, q2, q3⟩ := FQ.out _ hSw.1; clear hSw); go_simp; (try with_reducible rfl))
          try simp only [Act.put, List.setIfInBounds_toArray, List.set_cons_zero, List.set_cons_succ]
          refine wpU_take (i := 9) (oi := ?oi95) (v := ?v95) ?hi95 (by kernel_rfl) (by kernel_rfl) (by kernel_rfl) ?hy95 ?rest95
          case hi95 => (simp only [List.getElem?_toArray, List.getElem?_cons_succ, List.getElem?_cons_zero]; rfl)
          case hy95 => (refine Or.inl ⟨by rfl, ?_⟩; intro W hSw; (obtain ⟨c0, z0, z1, z2, q1, q2, q3⟩ := FQ.out _ hSw.1; clear hSw); go_simp; (try with_reducible rfl))
          try simp only [Act.put, List.setIfInBounds_toArray, List.set_cons_zero, List.set_cons_succ]
          refine wpU_take (i := 10) (oi := ?oi96) (v := ?v96) ?hi96 (by kernel_rfl) (by kernel_rfl) (by kernel_rfl) ?hy96 ?rest96
          case hi96 => (simp only [List.getElem?_toArray, List.getElem?_cons_succ, List.getElem?_cons_zero]; rfl)
          case hy96 => (refine Or.inl ⟨by rfl, ?_⟩; intro W hSw; (obtain ⟨c0, z0, z1, z2, q1, q2, q3⟩ := FQ.out _ hSw.1; clear hSw); go_simp; (try with_reducible rfl))
          try simp only [Act.put, List.setIfInBounds_toArray, List.set_cons_zero, List.set_cons_succ]
          refine wpU_done (by kernel_rfl) ?_ _
          intro W9 hSw
          clear HB HOW HSZ c0 z0 z1 z2 q1 q2 q3
          have HB := Lib.hid hSw.1
          have HOW := Lib.hid hSw.2.1
          have HSZ := Lib.hid hSw.2.2
          clear hSw
          obtain ⟨c0, z0, z1, z2, q1, q2, q3⟩ := FQ.out W9 HB.out
          have hown := HOW.out
          go_wp2_with (at_builtin; go_loud (refine wpList_append_own _ rfl _ _ 29 rfl (w.heap.size + 1) 68 i0 (.agg #[.string ⟨#[]⟩, .slice none 0 0, .int .i64 0]) 3 48 Try.underlying29 hi hz0 hz1 hz2 rfl (by decide) _ _ _ rfl (hown.alloc _) ⟨W9.heap.size, 0, none⟩ 1 1 [.string ⟨f.n.toArray⟩, .slice ga f.b.length gc, .int .i64 (f.s : Int)] rfl rfl (cells_new _ _ _) ?c2 ?c3 ?c4 ?c5 ?_))
          case c2 => (intro u hu; simp only [List.mem_cons, List.not_mem_nil, or_false] at hu; rcases hu with rfl | rfl | rfl <;> rfl)
          case c3 => (unfold maxLen; omega)
          case c4 => omega
          case c5 => (have := HSZ.out; simp; omega)
          intro lv2 W10 hown' hg3 hnil3
          have hrw : W10.ownsRow (w.heap.size + 1) 68 3 lv2 (A ++ [f]).length (fcells SLF (A ++ [f])) := by
            rw [fcells_snoc, List.length_append]
            unfold fcell
            rw [HSE.out]
            exact hown'
          have hbn : Below (w.heap.size + 1) WA W10 := (HB.out.alloc HSZ.out _).grown hg3 (by have := HSZ.out; simp; omega) (fun j hj => (hown.lt j hj).1)
          have hsn : w.heap.size + 1 ≤ W10.heap.size := by have h1 := hg3.size; have h2 := HSZ.out; rw [World.size_alloc] at h1; omega
          obtain ⟨lb, ld, hle⟩ := (Rd.of_own hrw).slice
          subst hle
          clear hown hown' hg3 hnil3 HOW HB HSZ HSE c0 z0 z1 z2 q1 q2 q3
          have HOW := Lib.hid hrw
          have HB := Lib.hid hbn
          have HSZ := Lib.hid hsn
          clear hrw hbn hsn
          go_wp2_with fail
          go_roundw
          case rel => exact ⟨k + 1, false, A ++ [f], by omega, by go_num, rfl, HOW.out, HB.out, HSZ.out, HNX.out, by first | omega | (simp; omega)⟩
          case measure => simp [intOf]; omega
end Go.Proofs.Ytclaahailnpdoaa.Pt
