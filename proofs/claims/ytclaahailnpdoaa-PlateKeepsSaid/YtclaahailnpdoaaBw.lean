/-
  Chapter 10: Copy. Printed by gen_plate_copy.py.
-/
import Derived.Test.YtclaahailnpdoaaBk
import Derived.Test.YtclaahailnpdoaaUw
namespace Go.Proofs.Ytclaahailnpdoaa.Pt
open Go.RowKit Go.Maps Go.Sort
set_option linter.unusedVariables false
set_option linter.unusedSimpArgs false

theorem get_filter (fs : List Fl) (P : Fl → Bool) (x : By) (ha : Asc fs) : get (fs.filter P) x = (get fs x).filter P := by
  induction fs with
  | nil => rfl
  | cons g r ih =>
    unfold Asc at ha
    rw [List.pairwise_cons] at ha
    rw [List.filter_cons, get_cons]
    by_cases hx : g.n = x
    · rw [if_pos hx]
      by_cases hP : P g = true
      · rw [if_pos hP, get_cons, if_pos hx]; simp [Option.filter, hP]
      · rw [if_neg hP, ih ha.2]
        have hno : get r x = none := get_none.2 fun k hk e => absurd (ha.1 k hk) (by rw [e, hx]; exact List.lt_irrefl _)
        rw [hno]
        simp [Option.filter, hP]
    · rw [if_neg hx]
      by_cases hP : P g = true
      · rw [if_pos hP, get_cons, if_neg hx, ih ha.2]
      · rw [if_neg hP, ih ha.2]
/-- one file more is through -/
theorem ins_filter (fs : List Fl) (P P' : Fl → Bool) (f : Fl) (ha : Asc fs) (hf : f ∈ fs) (hP : ∀ g ∈ fs, P' g = if g.n = f.n then true else P g) : ins f (fs.filter P) = fs.filter P' := by
  refine asc_ext (asc_ins _ _ (List.Pairwise.filter _ ha)) (List.Pairwise.filter _ ha) fun n => ?_
  rw [get_ins f _ n (List.Pairwise.filter _ ha), get_filter fs P n ha, get_filter fs P' n ha]
  by_cases h : f.n = n
  · subst h
    rw [if_pos rfl, get_mem ha hf]
    have := hP f hf
    rw [if_pos rfl] at this
    simp [Option.filter, this]
  · rw [if_neg h]
    cases hg : get fs n with
    | none => rfl
    | some g =>
      have h1 := hP g (get_name hg).1
      have h2 : ¬ g.n = f.n := fun e => h (by rw [← e]; exact (get_name hg).2)
      rw [if_neg h2] at h1
      simp [Option.filter, h1]
theorem exec_update {P : Program} {o : Oper} {a : Act} (t : TypeId) (m x v : Operand) (ho : o.op = .mapUpdate t m x v) {M X V : Value} {w w' : World} (hm : a.eval m = M) (hx : a.eval x = X) (hv : a.eval v = V)
    (hr : (Instr.mapUpdate t M X V).run P w = .ok () w') : (execOp a.eval o).run P w = .ok .skip w' := by
  simp [execOp, ho, hm, hx, hv, hr, Result.andThen]
theorem wpList_exec {P : Program} {ops : Array Oper} {rest : List Oper} {o : Oper} {a : Act} {w w' : World} {v : Value} {Q : Exit → Act → World → Prop} (hw : Region.wanted o (yielded ops a.tmps) = true)
    (hr : (execOp a.eval o).run P w = .ok (.value v) w') (h : wpList P ops Q rest (a.put o.dst v) w') : wpList P ops Q (o :: rest) a w :=
  wpList_step fun K hK => by
    rw [if_pos hw]
    unfold Oper.wp
    simp only [hr]
    exact hK _ _ h
set_option maxRecDepth 20000 in
set_option maxHeartbeats 2000000 in
/-- Clone, what it leaves named ahead -/
theorem clone_exact (b : By) (v : Value) (w : World) (h : Rd w 1 v b.length (Lib.byteCells b)) (hl : b.length ≤ 140737488355000) :
    ∃ v' w', (Calls Try.prog 39 #[v] w fun e w'' => e = .returned v' ∧ w'' = w') ∧ OwnB w' w.heap.size v' b ∧ Below w.heap.size w w' := by
  obtain ⟨a, c, rfl⟩ := h.slice
  rcases a with _ | ad
  · have hb : b = [] := by
      rcases Nat.eq_zero_or_pos b.length with h0 | h0
      · exact List.eq_nil_of_length_eq_zero h0
      · obtain ⟨_, _, _, e, _⟩ := h.pos h0; cases e
    subst hb
    refine ⟨.slice none 0 0, w, ?_, World.ownsRow_nil _ _ _ _, Below.refl _ _⟩
    clear h
    have hq : ∀ W, (binOp .eql 33 (.slice none 0 c) (.slice none 0 0)).run Try.prog W = .ok (.bool true) W := fun W => by kernel_rfl
    go_enter Try.func39, Try.ntmps39
    go_wp2
    go_ret
    exact ⟨rfl, rfl⟩
  · obtain ⟨i0, hi, hz0, hz1, hz2⟩ := info_parts u8_row
    have hb0 : Below w.heap.size w (w.alloc (.cells #[] 5)) := (Below.refl w.heap.size w).alloc (Nat.le_refl _) _
    obtain ⟨v', w', hrun, ho, hg, _⟩ := app_run (P := Try.prog) (w.alloc (.cells #[] 5)) 33 33 5 w.heap.size i0 (.int .u8 0) 1 1 Try.underlying33 hi hz0 hz1 hz2 rfl (by decide) (.slice (some ⟨w.heap.size, 0, none⟩) 0 0) 0 [] (own_fresh w 5 1) (.slice (some ad) b.length c) b.length (Lib.byteCells b) (h.below hb0) (fun u hu => by
      unfold Lib.byteCells at hu; obtain ⟨c, _, rfl⟩ := List.mem_map.1 hu; rfl) (by unfold maxLen; omega) (by omega) (by simp)
    have hb := below_app (Below.refl w.heap.size w) (Nat.le_refl _) hg (fun k e => by cases e; exact Nat.le_refl _)
    rw [Nat.zero_add, List.nil_append] at ho
    refine ⟨v', w', ?_, ho, hb⟩
    have HRUN := Lib.hid hrun
    clear h hrun ho hg hb hb0 hi hz0 hz1 hz2
    have hq : ∀ W, (binOp .eql 33 (.slice (some ad) b.length c) (.slice none 0 0)).run Try.prog W = .ok (.bool false) W := fun W => by kernel_rfl
    go_enter Try.func39, Try.ntmps39
    go_wp2_with (at_builtin; go_loud (refine wpList_exec rfl (exec_append (.tmp 5) (.tmp 6) 33 rfl rfl rfl HRUN.out) ?_))
    go_wp2_with fail
    go_ret
    exact ⟨rfl, rfl⟩
/-- Copy under way: these files are through -/
structure CW (w wr : World) (q' m' : Nat) (st : St) (P : Fl → Bool) (sl' : By → Value) : Prop where
  blk : Blk wr q' 64 (head6 m' st)
  map : PM wr m' (st.fs.filter P) sl'
  row : ∀ f ∈ st.fs, P f = true → FRow wr 5 (sl' f.n) f.b.length (Lib.byteCells f.b) ∧ ∀ k, (sl' f.n).ownBlock = some k → w.heap.size + 3 ≤ k
  ap : ∀ f ∈ st.fs, ∀ g ∈ st.fs, P f = true → P g = true → f.n ≠ g.n → ∀ k, (sl' f.n).ownBlock = some k → (sl' g.n).ownBlock ≠ some k
  bl : Below w.heap.size w wr
theorem grown_of_below {w w' : World} (h : Below w.heap.size w w') : w.grownBy w' none := ⟨h.os, h.tape, h.output, h.size, fun k hk _ => h.block k hk⟩
/-- only block it is changed, which is none of its own -/
theorem CW.kept {w wr W' : World} {st : St} {P : Fl → Bool} {sl' : By → Value} {row : Option Nat} (h : CW w wr w.heap.size (w.heap.size + 1) st P sl') (hg : wr.grownBy W' row) (hr : row = some (w.heap.size + 2) ∨ row = none) : CW w W' w.heap.size (w.heap.size + 1) st P sl' := by
  have hb : ∀ k, k < wr.heap.size → k ≠ w.heap.size + 2 → W'.heap[k]? = wr.heap[k]? := fun k hk hne => hg.block k hk (fun e => by rcases hr with hr | hr <;> rw [hr] at e <;> cases e; exact hne rfl)
  refine ⟨(hb _ h.blk.lt (by omega)).trans h.blk, h.map.keep (hb _ h.map.lt (by omega)), fun f hf hP => ⟨(h.row f hf hP).1.keep (fun g hk => hb g ((h.row f hf hP).1.lt g hk) (by have := (h.row f hf hP).2 g hk; omega)), (h.row f hf hP).2⟩, h.ap, h.bl.grown hg h.bl.size (fun j hj => by rcases hr with hr | hr <;> rw [hr] at hj <;> cases hj; omega)⟩
theorem CW.below {w wr W' : World} {q' m' : Nat} {st : St} {P : Fl → Bool} {sl' : By → Value} (h : CW w wr q' m' st P sl') (hb : Below wr.heap.size wr W') : CW w W' q' m' st P sl' :=
  ⟨h.blk.below hb h.blk.lt, h.map.keep (hb.block m' h.map.lt), fun f hf hP => ⟨(h.row f hf hP).1.keep (fun g hg => hb.block g ((h.row f hf hP).1.lt g hg)), (h.row f hf hP).2⟩, h.ap, h.bl.trans (hb.mono h.bl.size)⟩
set_option maxRecDepth 100000 in
set_option maxHeartbeats 4000000 in
theorem copy_any (q m : Nat) (st : St) (sl : By → Value) (w : World) (h : PA w q m st sl) :
    Calls Try.prog 20 #[.pointer (some ⟨q, 0, none⟩)] w fun e w' => ∃ q' m' sl', e = .returned (.pointer (some ⟨q', 0, none⟩)) ∧ PA w' q' m' st sl' ∧ Below w.heap.size w w' ∧ ∀ k, foot q' m' st.fs sl' k → w.heap.size ≤ k := by
  have HP := Lib.hid h
  have c0 := h.blk.cell 0 rfl
  have c1 := h.blk.cell 1 rfl
  have c2 := h.blk.cell 2 rfl
  have c3 := h.blk.cell 3 rfl
  have c4 := h.blk.cell 4 rfl
  have c5 := h.blk.cell 5 rfl
  have hlen : st.fs.length ≤ 268435456 := by
    have h1 := len_tot st.fs (fun f hf => (h.fit.file f hf).1)
    have h2 := h.fit.tot
    have h3 := h.fit.room
    omega
  obtain ⟨D, hown, hsz, hD⟩ := h.map
  have HD := Lib.hid hD
  have hlt := hown.lt
  rw [← hsz] at hown hlen
  have hmm := @run_makeMap Try.prog
  obtain ⟨T, hT⟩ : ∃ T, T = tot st.fs := ⟨_, rfl⟩
  rw [← hT] at c2
  have HT := Lib.hid hT
  have hqlt := h.blk.lt
  have HQL := Lib.hid (And.intro hqlt hlt)
  have HWE : Hid (∃ WE, WE = (w.alloc (.cells #[.map (some (w.heap.size + 1)), .int .i64 (st.room : Int), .int .i64 (T : Int), .bool st.armed, .int .i64 (st.left : Int), .bool st.down] 64)).alloc (.map #[] 0)) := Lib.hid ⟨_, rfl⟩
  have hb2 : Below w.heap.size w ((w.alloc (.cells #[.map (some (w.heap.size + 1)), .int .i64 (st.room : Int), .int .i64 (T : Int), .bool st.armed, .int .i64 (st.left : Int), .bool st.down] 64)).alloc (.map #[] 0)) := ((Below.refl w.heap.size w).alloc (Nat.le_refl _) _).alloc (by simp) _
  have e0 := (h.blk.below hb2 hqlt).cell 0 rfl
  have hs1 : (w.alloc (.cells #[.map (some (w.heap.size + 1)), .int .i64 (st.room : Int), .int .i64 (T : Int), .bool st.armed, .int .i64 (st.left : Int), .bool st.down] 64)).heap.size = w.heap.size + 1 := by simp
  have hCW0 : CW w ((w.alloc (.cells #[.map (some (w.heap.size + 1)), .int .i64 (st.room : Int), .int .i64 (T : Int), .bool st.armed, .int .i64 (st.left : Int), .bool st.down] 64)).alloc (.map #[] 0)) w.heap.size (w.heap.size + 1) st (fun f => !(has D (.string f.n))) sl := by
    have hbk := Blk.new w 64 (head6 (w.heap.size + 1) st)
    unfold head6 at hbk
    rw [← hT] at hbk
    have hpm := PM.made (w.alloc (.cells #[.map (some (w.heap.size + 1)), .int .i64 (st.room : Int), .int .i64 (T : Int), .bool st.armed, .int .i64 (st.left : Int), .bool st.down] 64)) sl
    rw [hs1] at hpm
    have hno : ∀ f ∈ st.fs, has D (.string f.n) = true := fun f hf => by rw [(HD.out f.n).1, get_mem HP.out.fit.asc hf]; rfl
    refine ⟨?_, by rw [show st.fs.filter (fun f => !(has D (.string f.n))) = [] from List.filter_eq_nil_iff.2 (fun f hf => by rw [hno f hf]; simp)]; exact hpm, fun f hf hP => (by rw [hno f hf] at hP; cases hP), fun f hf g hg hP => (by rw [hno f hf] at hP; cases hP), hb2⟩
    unfold head6
    rw [← hT]
    exact (show Blk (w.alloc (.cells #[.map (some (w.heap.size + 1)), .int .i64 (st.room : Int), .int .i64 (T : Int), .bool st.armed, .int .i64 (st.left : Int), .bool st.down] 64)) w.heap.size _ _ from hbk).below ((Below.refl _ _).alloc (Nat.le_refl _) _) (by rw [hs1]; omega)
  have hown2 : ((w.alloc (.cells #[.map (some (w.heap.size + 1)), .int .i64 (st.room : Int), .int .i64 (T : Int), .bool st.armed, .int .i64 (st.left : Int), .bool st.down] 64)).alloc (.map #[] 0)).ownsMap Try.prog 9 heldR m (Maps.size D) D := by
    obtain ⟨es, clock, h0, F, hs, hD'⟩ := hown
    exact ⟨es, clock, (hb2.block m hlt).trans h0, F, hs, hD'⟩
  clear hD h hsz hT HWE hown hqlt
  go_enter Try.func20, Try.ntmps20
  go_wp2_with (first | (at_range; refine wpList_range_own _ rfl _ 62 rfl 9 72 skey Try.underlying62 _ m _ D rfl hown2 ?_; intro w0 hrg0 hg0 hs0) | go_in)
  go_frame
  have hs2 : ((w.alloc (.cells #[.map (some (w.heap.size + 1)), .int .i64 (st.room : Int), .int .i64 (T : Int), .bool st.armed, .int .i64 (st.left : Int), .bool st.down] 64)).alloc (.map #[] 0)).heap.size = w.heap.size + 2 := by simp
  have hCW1 := hCW0.below ((Below.refl _ _).grown hg0 (Nat.le_refl _) (fun j hj => by cases hj))
  rw [hs2] at hrg0 ⊢
  have hs3 : w.heap.size + 3 ≤ w0.heap.size := by omega
  clear hs0 hg0 hCW0 hown2 e0 hb2 hs1 hs2
  go_loopw [] (fun wr => ∃ (left : Lit → Bool) (cnt : Nat) (sl' : By → Value), wr.ranges Try.prog 9 heldR m (w.heap.size + 2) (Maps.size D) D left cnt ∧ CW w wr w.heap.size (w.heap.size + 1) st (fun f => !(left (.string f.n))) sl' ∧ w.heap.size + 3 ≤ wr.heap.size)
    (fun wr => wr.rangeLeft m (w.heap.size + 2))
  case atStart => exact ⟨_, _, sl, hrg0, hCW1, hs3⟩
  case round =>
    clear hrg0 hCW1 hs3
    obtain ⟨left, cnt, sl', hrg, hCW, hs3⟩ := hrel
    go_wp2_with (first | (at_next; refine wpList_next_ranges _ rfl _ rfl 9 skey heldR encStr vx invK invV m (w.heap.size + 2) (Maps.size D) _ _ _ rfl hrg ?_ ?_) | go_in)
    · intro hc0 hl0
      have HE : Hid (PA wr w.heap.size (w.heap.size + 1) st sl' ∧ Below w.heap.size w wr ∧ ∀ k, foot w.heap.size (w.heap.size + 1) st.fs sl' k → w.heap.size ≤ k) := Lib.hid (by
        have hall : ∀ f : Fl, (!(left (.string f.n))) = true := fun f => by rw [hl0]; rfl
        have hmap := hCW.map
        rw [List.filter_eq_self.2 (fun f _ => hall f)] at hmap
        refine ⟨⟨hCW.blk, hmap, fun f hf => (hCW.row f hf (hall f)).1, fun f hf g hg => hCW.ap f hf g hg (hall f) (hall g), fun f hf k hk => ?_, by omega, HP.out.fit⟩, hCW.bl, fun k hk => ?_⟩
        · have := (hCW.row f hf (hall f)).2 k hk; omega
        · rcases hk with rfl | rfl | ⟨f, hf, hk⟩
          · exact Nat.le_refl _
          · omega
          · have := (hCW.row f hf (hall f)).2 k hk; omega)
      clear hCW hrg hl0
      go_wp2_with fail
      go_ret
      exact ⟨_, _, _, rfl, HE.out⟩
    · intro x c kl yd yp w2 cnt2 hkey hlk hv hat hrg2 hlt2 hg2 hs2 hen
      obtain ⟨x', ex, rfl, _⟩ := Maps.keyOf_str Try.underlying9 hkey
      obtain rfl : x = x' := encStr_inj ex
      have hhas : has D (.string x) = true := by
        cases hh : has D (.string x) with
        | true => rfl
        | false =>
          have h1 := hat .nil
          have h2 := hat (.lit (.bool true))
          rw [atKey_of_not_has hh] at h1 h2
          rw [← h1] at h2
          cases h2
      obtain ⟨f, hf⟩ : ∃ f, get st.fs x = some f := Option.isSome_iff_exists.1 (by rw [← (HD.out x).1]; exact hhas)
      have hfm := (get_name hf).1
      have hfn := (get_name hf).2
      obtain ⟨oa, oc, hsl⟩ := (HP.out.row f hfm).rd.slice
      rw [hfn] at hsl
      have hc : vx c = .agg #[.slice oa f.b.length oc, .int .i64 (f.s : Int)] := by
        have h1 := (HD.out x).2 f hf .nil
        rw [hat, hsl] at h1
        unfold heldR at hv
        simp only [Option.some.injEq, Prod.mk.injEq] at hv
        rw [← hv.1] at h1
        simp only [DataW.held.injEq] at h1
        exact h1
      have hx : encStr x = .string ⟨x.toArray⟩ := rfl
      rw [hc, hx] at hen ⊢
      obtain ⟨L, hL⟩ : ∃ L, L = f.b.length := ⟨_, rfl⟩
      obtain ⟨s0, hs0⟩ : ∃ s0, s0 = f.s := ⟨_, rfl⟩
      have hCW2 := hCW.kept hg2 (.inl rfl)
      have hrd : Rd w2 1 (.slice oa L oc) L (Lib.byteCells f.b) := by
        have h1 := (HP.out.row f hfm).rd
        rw [hfn, hsl] at h1
        rw [hL]
        exact h1.below' hCW2.bl (Nat.le_refl _)
      rw [← hL, ← hs0] at hen ⊢
      have hbA : Below w2.heap.size w2 (w2.alloc (.cells #[.slice oa L oc, .int .i64 (s0 : Int)] 72)) := (Below.refl _ _).alloc (Nat.le_refl _) _
      have hbk := Blk.new w2 72 [.slice oa L oc, .int .i64 (s0 : Int)]
      generalize hW0 : (w2.alloc (.cells #[.slice oa L oc, .int .i64 (s0 : Int)] 72)).drew = W0
      have HW0 := Lib.hid hW0
      have hbA0 : Below w2.heap.size w2 W0 := by rw [← hW0]; exact hbA.drew
      have hbk0 : Blk W0 w2.heap.size 72 [.slice oa L oc, .int .i64 (s0 : Int)] := by rw [← hW0]; exact hbk.drew
      have hs20 : w2.heap.size < W0.heap.size := hbk0.lt
      clear hW0 hbA
      have hCW0 := hCW2.below hbA0
      have hbl : L ≤ 140737488355000 := by
        have h1 := tot_lay ⟨x, [], 0⟩ st.fs HP.out.fit.asc
        simp only [List.length_nil, Nat.add_zero] at h1
        rw [show gB st.fs x = f.b from by unfold gB; rw [hf]; rfl, ← hL] at h1
        have h2 := HP.out.fit.room
        have h3 := HP.out.fit.tot
        omega
      obtain ⟨v', w5, hcall, hov, hb5⟩ := clone_exact f.b (.slice oa L oc) W0 (by rw [← hL]; exact hrd.below hbA0) (by rw [← hL]; exact hbl)
      have HCALL := Lib.hid hcall
      obtain ⟨na, nc, hne⟩ := hov.rd.slice
      subst hne
      rw [← hL] at HCALL hov
      have hCW5 := hCW0.below hb5
      obtain ⟨D', hown', hsz', hD'⟩ := hCW5.map
      have hfl : (st.fs.filter (fun f => !(left (.string f.n)))).length < maxLen := by
        have h1 := List.length_filter_le (fun f : Fl => !(left (.string f.n))) st.fs
        have h2 := len_tot st.fs (fun f hf => (HP.out.fit.file f hf).1)
        have h3 := HP.out.fit.tot
        have h4 := HP.out.fit.room
        unfold maxLen; omega
      obtain ⟨w7, hupd, hown7, hg7⟩ := hown'.update (key := .string ⟨x.toArray⟩) (val := fv (.slice na L nc) s0) (kl := .string x) (d := .held (fv (.slice na L nc) s0)) (ps := []) skey Try.underlying62 hfl hkey rfl
      have HUPD := Lib.hid hupd
      have hasc := HP.out.fit.asc
      have hPP : ∀ g ∈ st.fs, (!(left (.string g.n) && !(Lit.string g.n).sameKey (.string x))) = if g.n = f.n then true else !(left (.string g.n)) := fun g hg => by
        rw [hfn]
        by_cases hgx : g.n = x
        · rw [if_pos hgx, hgx]; simp [Lit.sameKey]
        · rw [if_neg hgx]
          have : (Lit.string g.n).sameKey (.string x) = false := by simp [Lit.sameKey, hgx]
          rw [this]; simp
      have hput := PM.put (f := f) (v := .slice na L nc) (List.Pairwise.filter _ hasc) hsz' (hown'.tidy skey) hD' (by rw [hfn, ← hs0]; exact hown7)
      rw [ins_filter st.fs _ (fun g => !(left (.string g.n) && !(Lit.string g.n).sameKey (.string x))) f hasc hfm hPP] at hput
      have hmb : ∀ k, k ≠ w.heap.size + 1 → k < w5.heap.size → w7.heap[k]? = w5.heap[k]? := fun k hk hk2 => hg7.block k hk2 (fun e => hk (by cases e; rfl))
      have hCWn : CW w w7 w.heap.size (w.heap.size + 1) st (fun g => !(left (.string g.n) && !(Lit.string g.n).sameKey (.string x))) (fun y => if y = f.n then .slice na L nc else sl' y) := by
        have hw0 : w.heap.size + 3 ≤ W0.heap.size := by omega
        have hold : ∀ g ∈ st.fs, g.n ≠ f.n → (!(left (.string g.n) && !(Lit.string g.n).sameKey (.string x))) = true → (!(left (.string g.n))) = true := fun g hg hne hP => by
          have := hPP g hg
          rw [if_neg hne] at this
          rw [← this]; exact hP
        refine ⟨(hmb _ (by omega) hCW5.blk.lt).trans hCW5.blk, hput, fun g hg hP => ?_, fun g hg g2 hg2' hP hP2 hne k hk => ?_, hCW5.bl.grown hg7 hCW5.bl.size (fun j hj => by cases hj; omega)⟩
        · by_cases hgn : g.n = f.n
          · have e : g = f := Option.some.inj ((get_mem hasc hg).symm.trans (by rw [hgn]; exact get_mem hasc hfm))
            subst e
            simp only [if_true]
            rw [← hL]
            refine ⟨?_, fun k hk => by have := (hov.lt k hk).1; omega⟩
            have hfr : FRow w5 5 (.slice na L nc) L (Lib.byteCells g.b) := .inl (by have := own_mono hov (Nat.zero_le _); rw [← hL] at this; exact this)
            exact hfr.keep (fun k hk => hmb k (by have := (hov.lt k hk).1; omega) (hov.lt k hk).2)
          · have h1 := hCW5.row g hg (hold g hg hgn hP)
            simp only [if_neg hgn]
            exact ⟨h1.1.keep (fun k hk => hmb k (by have := h1.2 k hk; omega) (h1.1.lt k hk)), h1.2⟩
        · by_cases hgn : g.n = f.n <;> by_cases hgn2 : g2.n = f.n
          · exact absurd (hgn.trans hgn2.symm) hne
          · simp only [if_pos hgn] at hk
            simp only [if_neg hgn2]
            intro e
            have h1 := hCW0.row g2 hg2' (hold g2 hg2' hgn2 hP2)
            have := h1.1.lt k e
            have := (hov.lt k hk).1
            omega
          · simp only [if_neg hgn] at hk
            simp only [if_pos hgn2]
            intro e
            have h1 := hCW0.row g hg (hold g hg hgn hP)
            have := h1.1.lt k hk
            have := (hov.lt k e).1
            omega
          · simp only [if_neg hgn] at hk
            simp only [if_neg hgn2]
            exact hCW5.ap g hg g2 hg2' (hold g hg hgn hP) (hold g2 hg2' hgn2 hP2) hne k hk
      have hrg7 := ((hrg2.kept (grown_of_below hbA0) (by simp) (by simp)).kept (grown_of_below hb5) (by simp) (by simp)).kept hg7 (by simp; omega) (by simp)
      have hbk5 := hbk0.below hb5 hbk0.lt
      have hbk7 : Blk w7 w2.heap.size 72 [.slice oa L oc, .int .i64 (s0 : Int)] := (hmb _ (by omega) hbk5.lt).trans hbk5
      have hs7 : w.heap.size + 3 ≤ w7.heap.size := by have := hg7.size; have := hb5.size; omega
      have HN := Lib.hid (And.intro hrg7 (And.intro hCWn hs7))
      have HLT : Hid (w7.rangeLeft m (w.heap.size + 2) < wr.rangeLeft m (w.heap.size + 2)) := Lib.hid (by rw [hrg7.left_eq, hrg.left_eq]; exact hlt2)
      have HBOX : Hid (∀ (n : Nat) (w' : World), n ≤ 2 → (fun n w' => match n with | 0 => w' = W0 | 1 => w' = w5 | _ => w' = w7) n w' → w'.cell? ⟨w.heap.size, 0, none⟩ = some (.map (some (w.heap.size + 1))) ∧ w'.cell? ⟨w2.heap.size, 0, none⟩ = some (.slice oa L oc) ∧ w'.cell? ⟨w2.heap.size, 1, none⟩ = some (.int .i64 (s0 : Int))) := Lib.hid (fun n w' hn hw' => by
        match n, hw' with
        | 0, h => rw [show w' = _ from h]; exact ⟨hCW0.blk.cell 0 rfl, hbk0.cell 0 rfl, hbk0.cell 1 rfl⟩
        | 1, h => rw [show w' = _ from h]; exact ⟨hCW5.blk.cell 0 rfl, hbk5.cell 0 rfl, hbk5.cell 1 rfl⟩
        | n + 2, h => rw [show w' = _ from h]; exact ⟨hCWn.blk.cell 0 rfl, hbk7.cell 0 rfl, hbk7.cell 1 rfl⟩)
      clear c0 c1 c2 c3 c4 c5 hlen hlt hrg hCW hs3 hv hlt2 hg2 hs2 ex hkey hlk hat hrg2 hhas hf hfm hfn hsl hc hx hL hs0 hCW2 hrd hbk hbA0 hbk0 hs20 hCW0 hbl hb5 hcall hov hCW5 hown' hsz' hD' hfl hupd hown7 hg7 hasc hPP hput hmb hCWn hrg7 hbk5 hbk7 hs7
      go_wp2_with fail
      refine wp_region_W [5, 9] (fun n w' => match n with | 0 => w' = W0 | 1 => w' = w5 | _ => w' = w7) (by kernel_rfl) (by rfl) ?_ ?_
      · exact HW0.out
      refine wpW_take (i := 0) (oi := ?oi1) (v := ?v1) ?hi1 (by kernel_rfl) (by kernel_rfl) (by kernel_rfl) (by rfl) ?hy1 ?rest1
      case hi1 => (simp only [List.getElem?_toArray, List.getElem?_cons_succ, List.getElem?_cons_zero]; rfl)
      case hy1 => (refine Or.inl ⟨by rfl, ?_⟩; intro n W hn hSw; (obtain ⟨d0, d1, d2⟩ := HBOX.out n W hn hSw; clear hSw hn); go_simp; (try with_reducible rfl))
      try simp only [Act.put, List.setIfInBounds_toArray, List.set_cons_zero, List.set_cons_succ]
      refine wpW_take (i := 1) (oi := ?oi2) (v := ?v2) ?hi2 (by kernel_rfl) (by kernel_rfl) (by kernel_rfl) (by rfl) ?hy2 ?rest2
      case hi2 => (simp only [List.getElem?_toArray, List.getElem?_cons_succ, List.getElem?_cons_zero]; rfl)
      case hy2 => (refine Or.inl ⟨by rfl, ?_⟩; intro n W hn hSw; (obtain ⟨d0, d1, d2⟩ := HBOX.out n W hn hSw; clear hSw hn); go_simp; (try with_reducible rfl))
      try simp only [Act.put, List.setIfInBounds_toArray, List.set_cons_zero, List.set_cons_succ]
      refine wpW_take (i := 2) (oi := ?oi3) (v := ?v3) ?hi3 (by kernel_rfl) (by kernel_rfl) (by kernel_rfl) (by rfl) ?hy3 ?rest3
      case hi3 => (simp only [List.getElem?_toArray, List.getElem?_cons_succ, List.getElem?_cons_zero]; rfl)
      case hy3 => (refine Or.inl ⟨by rfl, ?_⟩; intro n W hn hSw; (obtain ⟨d0, d1, d2⟩ := HBOX.out n W hn hSw; clear hSw hn); go_simp; (try with_reducible rfl))
      try simp only [Act.put, List.setIfInBounds_toArray, List.set_cons_zero, List.set_cons_succ]
      refine wpW_take (i := 3) (oi := ?oi4) (v := ?v4) ?hi4 (by kernel_rfl) (by kernel_rfl) (by kernel_rfl) (by rfl) ?hy4 ?rest4
      case hi4 => (simp only [List.getElem?_toArray, List.getElem?_cons_succ, List.getElem?_cons_zero]; rfl)
      case hy4 => (refine Or.inl ⟨by rfl, ?_⟩; intro n W hn hSw; (obtain ⟨d0, d1, d2⟩ := HBOX.out n W hn hSw; clear hSw hn); go_simp; (try with_reducible rfl))
      try simp only [Act.put, List.setIfInBounds_toArray, List.set_cons_zero, List.set_cons_succ]
      refine wpW_take (i := 4) (oi := ?oi5) (v := ?v5) ?hi5 (by kernel_rfl) (by kernel_rfl) (by kernel_rfl) (by rfl) ?hy5 ?rest5
      case hi5 => (simp only [List.getElem?_toArray, List.getElem?_cons_succ, List.getElem?_cons_zero]; rfl)
      case hy5 => (refine Or.inl ⟨by rfl, ?_⟩; intro n W hn hSw; (obtain ⟨d0, d1, d2⟩ := HBOX.out n W hn hSw; clear hSw hn); go_simp; (try with_reducible rfl))
      try simp only [Act.put, List.setIfInBounds_toArray, List.set_cons_zero, List.set_cons_succ]
      refine wpW_turn 0 (k := 5) (oi := ?oi6) (v := .slice na L nc) (by rfl) ?hi6 (by rfl) (by rfl) (by kernel_rfl) (by kernel_rfl) (by kernel_rfl) (by kernel_rfl) ?hy6 ?rest6
      case hi6 => (simp only [List.getElem?_toArray, List.getElem?_cons_succ, List.getElem?_cons_zero]; rfl)
      case hy6 =>
        refine Or.inl (Or.inr (Or.inr (Or.inl ⟨by rfl, 39, #[.slice oa L oc], fun W hSw => ?_, fun W hSw => ?_⟩)))
        · (go_simp; (try rfl))
        · rw [show W = W0 from hSw]
          exact HCALL.out.mono (fun e w' h => h)
      try simp only [Act.put, List.setIfInBounds_toArray, List.set_cons_zero, List.set_cons_succ]
      refine wpW_take (i := 6) (oi := ?oi7) (v := ?v7) ?hi7 (by kernel_rfl) (by kernel_rfl) (by kernel_rfl) (by rfl) ?hy7 ?rest7
      case hi7 => (simp only [List.getElem?_toArray, List.getElem?_cons_succ, List.getElem?_cons_zero]; rfl)
      case hy7 => (refine Or.inl ⟨by rfl, ?_⟩; intro n W hn hSw; (obtain ⟨d0, d1, d2⟩ := HBOX.out n W hn hSw; clear hSw hn); go_simp; (try with_reducible rfl))
      try simp only [Act.put, List.setIfInBounds_toArray, List.set_cons_zero, List.set_cons_succ]
      refine wpW_take (i := 7) (oi := ?oi8) (v := ?v8) ?hi8 (by kernel_rfl) (by kernel_rfl) (by kernel_rfl) (by rfl) ?hy8 ?rest8
      case hi8 => (simp only [List.getElem?_toArray, List.getElem?_cons_succ, List.getElem?_cons_zero]; rfl)
      case hy8 => (refine Or.inl ⟨by rfl, ?_⟩; intro n W hn hSw; (obtain ⟨d0, d1, d2⟩ := HBOX.out n W hn hSw; clear hSw hn); go_simp; (try with_reducible rfl))
      try simp only [Act.put, List.setIfInBounds_toArray, List.set_cons_zero, List.set_cons_succ]
      refine wpW_take (i := 8) (oi := ?oi9) (v := ?v9) ?hi9 (by kernel_rfl) (by kernel_rfl) (by kernel_rfl) (by rfl) ?hy9 ?rest9
      case hi9 => (simp only [List.getElem?_toArray, List.getElem?_cons_succ, List.getElem?_cons_zero]; rfl)
      case hy9 => (refine Or.inl ⟨by rfl, ?_⟩; intro n W hn hSw; (obtain ⟨d0, d1, d2⟩ := HBOX.out n W hn hSw; clear hSw hn); go_simp; (try with_reducible rfl))
      try simp only [Act.put, List.setIfInBounds_toArray, List.set_cons_zero, List.set_cons_succ]
      refine wpW_turn 1 (k := 9) (oi := ?oi10) (v := undef) (by rfl) ?hi10 (by rfl) (by rfl) (by kernel_rfl) (by kernel_rfl) (by kernel_rfl) (by kernel_rfl) ?hy10 ?rest10
      case hi10 => (simp only [List.getElem?_toArray, List.getElem?_cons_succ, List.getElem?_cons_zero]; rfl)
      case hy10 =>
        refine Or.inr ⟨by rfl, rfl, fun w' hw' => ⟨w7, ?_, rfl⟩⟩
        rw [show w' = w5 from hw']
        exact exec_update _ _ _ _ rfl rfl rfl rfl HUPD.out
      try simp only [Act.put, List.setIfInBounds_toArray, List.set_cons_zero, List.set_cons_succ]
      refine wpW_done (by kernel_rfl) (by rfl) ?_ _
      intro W hSw
      rw [show W = w7 from hSw]
      clear hSw HBOX HUPD HCALL
      go_wp2_with fail
      go_roundw
      case rel => exact ⟨_, _, _, HN.out.1, HN.out.2.1, HN.out.2.2⟩
      case measure => exact HLT.out
end Go.Proofs.Ytclaahailnpdoaa.Pt
