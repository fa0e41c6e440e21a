/-
  Chapter 12: replay.
-/
import Derived.Test.YthofbblgoamipaaGreatDoorVv
import Derived.Test.YthofbblgoamipaaGreatDoorSl
namespace Go.Proofs.YthofbblgoamipaaGreatDoor.Wa
open Go.RowKit Pt
set_option linter.unusedVariables false
set_option linter.unusedSimpArgs false
set_option maxRecDepth 100000

/-- one file, read: what is behind it is as it was -/
theorem file_ways (nm : By) (x : Wl) (A B : List Fi) (f : Fi) (h : Holds nm x.st.fs (A ++ f :: B)) (ha : Asc x.st.fs) (hn : nm.length ≤ 32) (hd : x.st.down = false) (h0 : (fileW nm x f).1 = 0) :
    (fileW nm x f).2.st.down = false ∧ ∃ A', Holds nm (fileW nm x f).2.st.fs (A' ++ B) := by
  have hok := h.ok f (by simp)
  by_cases hp : f.p = []
  · unfold fileW
    rw [if_pos hp]
    refine ⟨?_, A ++ [f], ?_⟩
    · simp only; split
      · exact hd
      · exact hd
    · have e : (if f.fr = [] then x else setW x f.n (cat f.fr).length).st.fs = x.st.fs := by split <;> rfl
      simp only
      rw [e, List.append_assoc]; exact h
  · unfold fileW at h0 ⊢
    rw [if_neg hp] at h0 ⊢
    obtain ⟨y, hy⟩ : ∃ y, y = (if f.fr = [] then x else setW x f.n (cat f.fr).length) := ⟨_, rfl⟩
    have hyst : y.st = x.st := by rw [hy]; split <;> rfl
    rw [← hy] at h0 ⊢
    have hgb := h.gB ha (f := f) (by simp)
    have hcl : (cat f.fr).length ≤ f.b.length := by unfold Fi.b; rw [List.length_append]; omega
    rcases cut_ways nm y f.n (cat f.fr).length hn hok.n (by rw [hyst]; exact hd) (by rw [hyst, hgb.1]; exact hcl) with hdn | hls
    · refine ⟨hdn.down, ?_⟩
      have htk : f.b.take (cat f.fr).length = cat f.fr := by unfold Fi.b; rw [List.take_left]
      have hfs := hdn.fs
      rw [hyst, hgb.1, hgb.2, htk] at hfs
      by_cases hfr : f.fr = []
      · refine ⟨A, ?_⟩
        rw [hfs, hfr]
        have h2 := h.drop ha f.n hok.n (min f.s (cat ([] : List (Nat × By))).length)
        have e : (A ++ f :: B).filter (fun g => !(g.n == f.n)) = A ++ B := by
          have hp1 := List.pairwise_append.1 h.asc
          have hp2 := List.pairwise_cons.1 hp1.2.1
          have eA : A.filter (fun g => !(g.n == f.n)) = A := List.filter_eq_self.2 fun g hg => by have := hp1.2.2 g hg f List.mem_cons_self; simp; omega
          have eB : B.filter (fun g => !(g.n == f.n)) = B := List.filter_eq_self.2 fun g hg => by have := hp2.1 g hg; simp; omega
          rw [List.filter_append, List.filter_cons, eA, eB]
          simp
        rw [e] at h2
        exact h2
      · obtain ⟨f', hf'⟩ : ∃ f' : Fi, f' = ⟨f.n, f.fr, [], min f.s (cat f.fr).length⟩ := ⟨_, rfl⟩
        have hfb : f'.b = cat f.fr := by rw [hf']; unfold Fi.b; rw [List.append_nil]
        have hfl : (⟨fnm nm f.n, cat f.fr, min f.s (cat f.fr).length⟩ : Fl) = f'.fl nm := by unfold Fi.fl; rw [hfb]; rw [hf']
        have hok' : okFi f' := ⟨by rw [hf']; exact hok.fr, by rw [hf']; exact part_nil, by
          rw [hfb]
          cases hc : f.fr with
          | nil => exact absurd hc hfr
          | cons y r => simp [cat, enc_ne], by rw [hf']; exact hok.n⟩
        refine ⟨A ++ [f'], ?_⟩
        rw [hfs, hfl, List.append_assoc]
        exact h.swap ha (by rw [hf']) hok'
    · rw [hls.e] at h0; cases h0
/-- what replay answers and leaves -/
def AnsR (Y : Nat → Prop) (w : World) (g q m : Nat) (nm : By) (most : Nat) (X : Nat × Wl) (R : List By) (base : By) (e : Ending) (w' : World) : Prop :=
  ∃ (res : Nat × Wl) (bv rv : Value) (vs : List Value) (Yc : Nat → Prop), res.1 = X.1 ∧ res.2.st = X.2.st ∧ (X.1 = 0 → res = X) ∧ e = .returned (.tuple #[bv, rv, .int .i64 (res.1 : Int)]) ∧ (∀ k, Y k → Yc k) ∧ WA Yc w' g q m nm most res.2 ∧ Kp Y w w' ∧
    (res.1 = 0 → Hd Yc w' w.heap.size rv vs R bv (some base))
/-- the cuts of what is ahead, the last one first -/
def oldC (nm : By) (x : Wl) (old : List Fi) (t : Nat) : Nat × Wl := cutsW nm x ((old.reverse.take t).map fun g => (g.n, 0))
theorem oldC_next {nm : By} {x : Wl} {old : List Fi} {t k : Nat} {f : Fi} (hk : old[k]? = some f) (ht : t + k + 1 = old.length) (h : (oldC nm x old t).1 = 0) :
    ((cutW nm (oldC nm x old t).2 f.n 0).1 = 0 → (oldC nm x old (t + 1)).1 = 0 ∧ (oldC nm x old (t + 1)).2 = (cutW nm (oldC nm x old t).2 f.n 0).2) ∧
    ((cutW nm (oldC nm x old t).2 f.n 0).1 ≠ 0 → cutsW nm x (old.reverse.map fun g => (g.n, 0)) = cutW nm (oldC nm x old t).2 f.n 0) := by
  have hr : old.reverse[t]? = some f := by rw [List.getElem?_reverse (by omega), show old.length - 1 - t = k by omega, hk]
  have hj := List.getElem?_eq_some_iff.1 hr
  have e1 : (old.reverse.take (t + 1)).map (fun g => (g.n, 0)) = (old.reverse.take t).map (fun g => (g.n, 0)) ++ [(f.n, 0)] := by
    rw [List.take_succ_eq_append_getElem hj.1, List.map_append, hj.2]; rfl
  have e2 : old.reverse.map (fun g => (g.n, 0)) = (old.reverse.take t).map (fun g => (g.n, 0)) ++ (f.n, 0) :: (old.reverse.drop (t + 1)).map (fun g => (g.n, 0)) := by
    rw [← List.map_cons (f := fun g : Fi => (g.n, 0)), ← List.map_append, ← hj.2, ← List.drop_eq_getElem_cons hj.1, List.take_append_drop]
  refine ⟨fun h2 => ?_, fun h2 => ?_⟩
  · have := cutsW_go nm x _ (f.n, 0) h h2
    unfold oldC
    rw [e1]; exact this
  · rw [e2]
    exact cutsW_stop nm x _ _ (f.n, 0) h h2
/-- from the k-th byte on -/
theorem by_from (bb off L cap k : Nat) (hk : k ≤ L) (hc : k < cap) (W : World) : (Instr.slice 32 (.slice (some ⟨bb, off, none⟩) L cap) (some (.int .i64 (k : Int))) none none).run Tryz.prog W = .ok (.slice (some ⟨bb, off + k, none⟩) (L - k) (cap - k)) W := by
  rw [sl_back W 32 (some ⟨bb, off, none⟩) L cap k .i64 bys_elem (bys_size W) hk, if_neg (by omega)]
  simp only [Option.map_some, Nat.mul_one, Addr.add_lit]
theorem rd_from {W : World} {bb off L cap : Nat} {l m : By} (h : Rd W 1 (.slice (some ⟨bb, off, none⟩) L cap) L (Lib.byteCells (l ++ m))) (hk : l.length < cap) (hL : l.length ≤ L) : Rd W 1 (.slice (some ⟨bb, off + l.length, none⟩) (L - l.length) (cap - l.length)) (L - l.length) (Lib.byteCells m) := by
  have h2 := h.back l.length hL
  rw [if_neg (by omega)] at h2
  have hd : (Lib.byteCells (l ++ m)).drop (l.length * 1) = Lib.byteCells m := by rw [bc_append, Nat.mul_one, ← bc_length l, List.drop_left]
  rw [hd] at h2
  simp only [Option.map_some, Nat.mul_one, Addr.add_lit] at h2
  exact h2
theorem WA.grow {Y F : Nat → Prop} {W W' : World} {g q m : Nat} {nm : By} {most : Nat} {x : Wl} (h : WA Y W g q m nm most x) (ho : Out F W W') (hF : ∀ k, F k → Y k) : WA (fun k => Y k ∨ (W.heap.size ≤ k ∧ k < W'.heap.size)) W' g q m nm most x := by
  obtain ⟨⟨⟨sl, h1, h2⟩, h3⟩, h4, h5⟩ := h
  have hlt : ∀ k, foot q m x.st.fs sl k → k < W.heap.size := fun k hk => h1.foot_lt hk
  refine ⟨⟨⟨sl, h1.keep fun k hk => ho.block k (hlt k hk) fun hf => h2 k hk (.inl (hF k hf)), fun k hk hY => ?_⟩, fun k hk => ?_⟩, (ho.block g h4.lt fun hf => h5 (hF g hf)).trans h4, fun hg => ?_⟩
  · rcases hY with (hY | hY) | hY
    · exact h2 k hk (.inl hY)
    · have := hlt k hk; omega
    · exact h2 k hk (.inr hY)
  · rcases hk with (hk | hk) | hk
    · exact Nat.lt_of_lt_of_le (h3 k (.inl hk)) ho.size
    · exact hk.2
    · exact Nat.lt_of_lt_of_le (h3 k (.inr hk)) ho.size
  · rcases hg with hg | hg
    · exact h5 hg
    · have := h4.lt; omega
/-- has no file so far an end that is no frame? -/
def goodJ (files : List Fi) (j : Nat) : Bool := (files.take j).all fun g => g.p.isEmpty
theorem goodJ_next {files : List Fi} {j : Nat} {f : Fi} (h : files[j]? = some f) : goodJ files (j + 1) = (goodJ files j && f.p.isEmpty) := by
  have hj := List.getElem?_eq_some_iff.1 h
  unfold goodJ
  rw [List.take_succ_eq_append_getElem hj.1, List.all_append, hj.2]
  simp
theorem goodJ_pre {pre jk : List Fi} {f : Fi} (hp : ∀ g ∈ pre, g.p = []) {j : Nat} (hj : j ≤ pre.length) : goodJ (pre ++ f :: jk) j = true := by
  unfold goodJ
  rw [List.take_append_of_le_length hj, List.all_eq_true]
  intro g hg
  rw [hp g (List.mem_of_mem_take hg)]; rfl
theorem filesW_next {nm : By} {x : Wl} {files : List Fi} {j : Nat} {f : Fi} (h : files[j]? = some f) (h0 : (filesW nm x (files.take j)).1 = 0) :
    ((fileW nm (filesW nm x (files.take j)).2 f).1 = 0 → (filesW nm x (files.take (j + 1))).1 = 0 ∧ (filesW nm x (files.take (j + 1))).2 = (fileW nm (filesW nm x (files.take j)).2 f).2) ∧
    ((fileW nm (filesW nm x (files.take j)).2 f).1 ≠ 0 → filesW nm x files = fileW nm (filesW nm x (files.take j)).2 f) := by
  have hj := List.getElem?_eq_some_iff.1 h
  refine ⟨fun h2 => ?_, fun h2 => ?_⟩
  · rw [List.take_succ_eq_append_getElem hj.1, filesW_app, if_pos h0, hj.2, filesW, if_pos h2]
    exact ⟨rfl, rfl⟩
  · have e : files = files.take j ++ (f :: files.drop (j + 1)) := by rw [← hj.2, ← List.drop_eq_getElem_cons hj.1, List.take_append_drop]
    conv => lhs; rw [e]
    rw [filesW_app, if_pos h0, filesW, if_neg h2]
theorem recs_next {files : List Fi} {j : Nat} {f : Fi} (h : files[j]? = some f) : recs (files.take (j + 1)) = recs (files.take j) ++ rec1 f := by
  have hj := List.getElem?_eq_some_iff.1 h
  rw [List.take_succ_eq_append_getElem hj.1, recs_app, recs_one, hj.2]
/-- behind j files -/
structure L2 (Y : Nat → Prop) (w wr : World) (B g q m : Nat) (nm : By) (most : Nat) (x0 : Wl) (files : List Fi) (base : By) (j : Nat) (bv rv : Value) : Prop where
  ok : (filesW nm x0 (files.take j)).1 = 0
  mem : ∃ Yc vs, (∀ k, Y k → Yc k) ∧ WA Yc wr g q m nm most (filesW nm x0 (files.take j)).2 ∧ Hd Yc wr B rv vs (recs (files.take j)) bv (if j = 0 then none else some base)
  kp : Kp Y w wr
  dn : (filesW nm x0 (files.take j)).2.st.down = false
  hl : ∃ A, Holds nm (filesW nm x0 (files.take j)).2.st.fs (A ++ files.drop j)
/-- behind t frames of a file: R the records so far, bo the base -/
structure L3 (Y : Nat → Prop) (w wr : World) (B g q m : Nat) (nm : By) (most : Nat) (x : Wl) (b14 : Value) (fb : By) (R : List By) (bo : Option By) (bv rv : Value) : Prop where
  mem : ∃ Yc vs, (∀ k, Y k → Yc k) ∧ WA Yc wr g q m nm most x ∧ Hd Yc wr B rv vs R bv bo
  kp : Kp Y w wr
  rd : Rd wr 1 b14 fb.length (Lib.byteCells fb)
  own : ∀ k, b14.ownBlock = some k → k < wr.heap.size ∧ rv.ownBlock ≠ some k
theorem L3.below {Y : Nat → Prop} {w wr w' : World} {B g q m : Nat} {nm : By} {most : Nat} {x : Wl} {b14 : Value} {fb : By} {R : List By} {bo : Option By} {bv rv : Value} (h : L3 Y w wr B g q m nm most x b14 fb R bo bv rv) (hb : Below wr.heap.size wr w') : L3 Y w w' B g q m nm most x b14 fb R bo bv rv := by
  obtain ⟨⟨Yc, vs, h1, h2, h3⟩, h4, h5, h6⟩ := h
  exact ⟨⟨Yc, vs, h1, h2.below hb, h3.keep fun k hk => hb.block k (h2.ys k hk)⟩, h4.trans (Kp.of_below hb), h5.below hb, fun k hk => ⟨Nat.lt_of_lt_of_le (h6 k hk).1 hb.size, (h6 k hk).2⟩⟩
/-- a base that is new -/
theorem L3.base {Y : Nat → Prop} {w wr w' : World} {B g q m : Nat} {nm : By} {most : Nat} {x : Wl} {b14 : Value} {fb : By} {R : List By} {bo : Option By} {bv rv u : Value} {b : By} (h : L3 Y w wr B g q m nm most x b14 fb R bo bv rv) (hb : Below wr.heap.size wr w') (hu : Cv w' wr.heap.size u b) (hB : B ≤ wr.heap.size) :
    L3 Y w w' B g q m nm most x b14 fb R (some b) u rv := by
  obtain ⟨⟨Yc, vs, h1, h2, h3⟩, h4, h5, h6⟩ := h.below hb
  obtain ⟨⟨Yd, vs', g1, g2, g3⟩, _, _, _⟩ := h
  exact ⟨⟨_, vs', fun k hk => .inl (g1 k hk), g2.more hb, (g3.keep fun k hk => hb.block k (g2.ys k hk)).base hu g2.ys hB⟩, h4, h5, h6⟩
/-- a record that is new: w1 behind next, w2 with the list of one, w3 behind append -/
theorem L3.add {Y : Nat → Prop} {w wr w1 w2 w3 : World} {B g q m : Nat} {nm : By} {most : Nat} {x : Wl} {b14 : Value} {fb : By} {R : List By} {bo : Option By} {bv rv rv' u : Value} {b : By} {vs0 : List Value} (h : L3 Y w wr B g q m nm most x b14 fb R bo bv rv) (hb : Below wr.heap.size wr w1) (hu : Cv w1 wr.heap.size u b) (hB : B ≤ wr.heap.size)
    (hYB : ∀ k, Y k → k < B) (hb2 : Below w1.heap.size w1 w2) (hrow0 : wr.ownsRow B 32 1 rv R.length vs0) (hrow : w3.ownsRow B 32 1 rv' (R.length + 1) (vs0 ++ [u])) (hg : w2.grownBy w3 rv.ownBlock) (ho : rv'.ownBlock = rv.ownBlock ∨ rv'.ownBlock = some w2.heap.size) :
    L3 Y w w3 B g q m nm most x b14 fb (R ++ [b]) bo bv rv' := by
  obtain ⟨⟨Yc, vs, h1, h2, h3⟩, h4, h5, h6⟩ := h
  have hvs : vs0 = vs := by
    rcases h3.row.2 with ⟨e, h0⟩ | ⟨g1, cap, cur, e, _, hh, hn, hm, hs, ht⟩
    · have l1 := h3.row.1
      have l2 := hrow0.1
      rw [h0] at l1 l2
      rw [List.eq_nil_of_length_eq_zero (by omega : vs0.length = 0), List.eq_nil_of_length_eq_zero (by omega : vs.length = 0)]
    · rcases hrow0.2 with ⟨e2, _⟩ | ⟨g2, cap2, cur2, e2, _, hh2, _, _, _, ht2⟩
      · rw [e] at e2; cases e2
      · rw [e] at e2; cases e2
        rw [hh] at hh2; cases hh2
        rw [← ht, ← ht2]
  subst hvs
  have hbb : Below wr.heap.size wr w2 := hb.trans (hb2.mono hb.size)
  have g2 : WA (fun k => Yc k ∨ (wr.heap.size ≤ k ∧ k < w2.heap.size)) w2 g q m nm most x := h2.more hbb
  have hrY : ∀ k, rv.ownBlock = some k → Yc k := h3.yr
  have g3 := g2.grow (Out.of_grown hg) fun k hk => .inl (hrY k hk)
  have hgs := hg.size
  have hadd := (h3.keep (W' := w2) fun k hk => hbb.block k (h2.ys k hk)).add (hu.keep fun k hk => hb2.block k (hu.lt k hk).2) h2.ys hB hrow hg ho
  refine ⟨⟨_, _, fun k hk => .inl (h1 k hk), g3.mono fun k hk => ?_, hadd⟩, (h4.trans (Kp.of_below hbb)).trans (Out.mono (Out.of_grown hg) fun k hk hr hy => ?_), ?_, fun k hk => ?_⟩
  · have := hbb.size
    rcases hk with hk | hk
    · exact .inl (.inl hk)
    · by_cases h' : k < w2.heap.size
      · exact .inl (.inr ⟨hk.1, h'⟩)
      · exact .inr ⟨by omega, hk.2⟩
  · have h7 := (hrow0.lt k hr).1; have h8 := hYB k hy; omega
  · exact rd_keep (h5.below hbb) fun k hk => hg.block k (Nat.lt_of_lt_of_le (h6 k hk).1 hbb.size) fun e => (h6 k hk).2 e.symm
  · have h7 := (h6 k hk).1
    have := hbb.size
    refine ⟨by omega, fun e => ?_⟩
    rcases ho with ho | ho
    · rw [ho] at e; exact (h6 k hk).2 e
    · rw [ho] at e; cases e; omega
theorem recs_len {K : Nat} : ∀ l : List Fi, (∀ g ∈ l, (rec1 g).length ≤ K) → (recs l).length ≤ l.length * K := by
  intro l
  induction l with
  | nil => intro _; simp [recs]
  | cons f l ih =>
    intro h
    have h1 := ih fun g hg => h g (List.mem_cons_of_mem _ hg)
    have h2 := h f List.mem_cons_self
    rw [show recs (f :: l) = rec1 f ++ recs l by simp [recs], List.length_append, List.length_cons, Nat.add_mul, Nat.one_mul]
    omega
theorem cat_len : ∀ l : List (Nat × By), l.length ≤ (cat l).length := by
  intro l
  induction l with
  | nil => exact Nat.le_refl _
  | cons x l ih =>
    rw [cat, List.length_append, List.length_cons]
    have := List.length_pos_iff.2 (enc_ne x.1 x.2)
    omega
theorem bys_row : (Tryz.prog.info? 32).map (fun i => (i.zero, i.size, i.bytes)) = some (some (.slice none 0 0), 1, 24) := by kernel_rfl
set_option maxHeartbeats 16000000 in
theorem replay_any {Y : Nat → Prop} (g q m : Nat) (nm : By) (most : Nat) (x : Wl) (old pre jk : List Fi) (f : Fi) (a : Nat) (base : By) (lv : Value) (w : World) (h : WA Y w g q m nm most x) (hn : nm.length ≤ 32) (hd : x.st.down = false)
    (hH : Holds nm x.st.fs (old ++ (pre ++ f :: jk))) (hrun : Run a base (pre ++ [f])) (hp : ∀ g ∈ pre, g.p = []) (hj : ∀ g ∈ jk, g.fr = [])
    (hl : Rd w 1 lv (old ++ (pre ++ f :: jk)).length ((old ++ (pre ++ f :: jk)).map fun f => iv f.n)) (hlY : ∀ k, lv.ownBlock = some k → Y k) :
    Calls Tryz.prog 35 #[.pointer (some ⟨g, 0, none⟩), lv, .int .i64 (old.length : Int)] w fun e w' => AnsR Y w g q m nm most (repW nm x old pre f jk) (recs (pre ++ [f])) base e w' := by
  obtain ⟨files, hfi⟩ : ∃ fl, fl = pre ++ f :: jk := ⟨_, rfl⟩
  obtain ⟨hln, frs, hfrs⟩ := hrun.last
  have hfne : f.fr ≠ [] := by rw [hfrs]; simp
  have hpre : ∀ g ∈ pre, g.p = [] ∧ g.fr ≠ [] := fun g hg => ⟨hp g hg, by
    obtain ⟨i, hi⟩ := List.getElem?_of_mem hg
    obtain ⟨rs, e⟩ := hrun.hd i g (by rw [List.getElem?_append_left (List.getElem?_eq_some_iff.1 hi).1]; exact hi)
    rw [e]; simp⟩
  have hjk : ∀ g ∈ jk, g.fr = [] ∧ g.p ≠ [] := fun g hg => ⟨hj g hg, fun e => by
    have := (hH.ok g (by simp [hg])).ne
    unfold Fi.b at this
    rw [hj g hg, e] at this
    exact this rfl⟩
  have HST := Lib.hid (repW_steps nm x old pre jk f hfne hpre hjk)
  have HW := Lib.hid h
  have HN := Lib.hid hn
  have HHH := Lib.hid hH
  have HPJ := Lib.hid (And.intro hpre (And.intro hjk (And.intro hfne hrun)))
  obtain ⟨la, lc, rfl⟩ := hl.slice
  obtain ⟨L, hL⟩ : ∃ L, L = (old ++ (pre ++ f :: jk)).length := ⟨_, rfl⟩
  obtain ⟨O, hO⟩ : ∃ O, O = old.length := ⟨_, rfl⟩
  have HRD := Lib.hid hl
  have hL99 : L ≤ 100 := by
    rw [hL]
    have := nodup_le 100 ((old ++ (pre ++ f :: jk)).map Fi.n) (by
      rw [List.Nodup, List.pairwise_map]; exact hH.asc.imp fun h e => by omega) (fun k hk => by
      obtain ⟨g, hg, rfl⟩ := List.mem_map.1 hk
      have := (hH.ok g hg).n; omega)
    rw [List.length_map] at this; exact this
  rw [← hL] at HRD hlY ⊢
  rw [← hO]
  have HLY := Lib.hid hlY
  have HLO := Lib.hid (And.intro hL hO)
  have HDN := Lib.hid hd
  have hOL : O < L := by rw [hL, hO]; simp only [List.length_append, List.length_cons]; omega
  clear h hn hd hH hrun hp hj hl hlY hL hO hln hfrs hfne hpre hjk
  go_enter Tryz.func35, Tryz.ntmps35
  go_wp2_with fail
  have HPE : Hid (Kp Y w w) := Lib.hid (Kp.refl _ _)
  go_loopw [6, 7, 10] (fun v6 v7 i wr => ∃ k : Nat, k ≤ L ∧ i = .int .i64 ((k : Int) - 1) ∧ v6 = .slice none 0 0 ∧ v7 = .slice none 0 0 ∧ (oldC nm x old (O - k)).1 = 0 ∧ WA Y wr g q m nm most (oldC nm x old (O - k)).2 ∧ Kp Y w wr) (fun _ _ i _ => (intOf i + 1).toNat)
  case atStart =>
    refine ⟨L, Nat.le_refl _, ?_, rfl, rfl, ?_⟩
    · first | rfl | go_num
    · rw [show O - L = 0 by omega]
      exact ⟨rfl, HW.out, Kp.refl _ _⟩
  case round =>
    obtain ⟨k, hk, rfl, rfl, rfl, hz, hwa, hkp⟩ := hrel
    have HZ := Lib.hid hz
    have HWR := Lib.hid hwa
    have HKR := Lib.hid hkp
    clear hz hwa hkp
    cases k with
    | zero =>
      rw [show ((0 : Nat) : Int) - 1 = -1 from rfl]
      have t1 : ¬ (0 : Int) ≤ -1 := by decide
      have hx00 : oldC nm x old (O - 0) = cutsW nm x (old.reverse.map fun g => (g.n, 0)) := by
        unfold oldC; rw [Nat.sub_zero, List.take_of_length_le (by rw [List.length_reverse, ← HLO.out.2]; exact Nat.le_refl _)]
      rw [hx00] at HZ HWR
      have hS2 := HST.out.2 HZ.out
      have hdr := drops_ways nm HN.out (old.reverse.map Fi.n) x _ HHH.out HW.out.py.fit.asc (fun k hk => by obtain ⟨g, hg, rfl⟩ := List.mem_map.1 hk; exact (HHH.out.ok g (by simp at hg; simp [hg])).n) HDN.out
      have hmm : (old.reverse.map Fi.n).map (fun k => (k, 0)) = old.reverse.map fun g => (g.n, 0) := by rw [List.map_map]; rfl
      rw [hmm] at hdr
      obtain ⟨r0, hr0⟩ : ∃ r0, r0 = cutsW nm x (old.reverse.map fun g => (g.n, 0)) := ⟨_, rfl⟩
      rw [← hr0] at hdr hS2 HZ HWR
      obtain ⟨x0, hx0⟩ : ∃ x0, x0 = r0.2 := ⟨_, rfl⟩
      rw [← hx0] at hdr hS2 HWR
      have HH0 : Hid (Holds nm x0.st.fs files ∧ x0.st.down = false) := Lib.hid (by
        rcases hdr.1 with ⟨h1, h2⟩ | ⟨h1, _⟩
        · have hasc0 := List.pairwise_append.1 HHH.out.asc
          rw [filter_keep (fun k hk g hg => by
            obtain ⟨o, ho, rfl⟩ := List.mem_map.1 hk
            have := hasc0.2.2 o (by simpa using ho) g hg
            omega), filter_all (fun g hg => List.mem_map_of_mem (by simpa using hg)), List.nil_append] at h2
          rw [hfi]
          exact ⟨h2, by have := h1.down; rw [← hx0] at this; exact this⟩
        · rw [HZ.out] at h1; cases h1)
      have HS2 := Lib.hid hS2
      have HFI := Lib.hid hfi
      rw [← hfi] at HS2 HLO HRD HHH
      have HW0 := Lib.hid HWR.out
      have HK0 := Lib.hid HKR.out
      obtain ⟨M, hM⟩ : ∃ M, M = files.length := ⟨_, rfl⟩
      have HM := Lib.hid hM
      have HRL : Hid (∀ g ∈ files, (rec1 g).length ≤ 268435456 ∧ g.fr.length ≤ 268435456) := Lib.hid (fun e he => by
        have h0 := HH0.out.1.gB HW0.out.py.fit.asc he
        have h1 := tot_lay ⟨fnm nm e.n, [], 0⟩ x0.st.fs HW0.out.py.fit.asc
        simp only [List.length_nil, Nat.add_zero] at h1
        have h2 := HW0.out.py.fit.room
        have h3 := HW0.out.py.fit.tot
        rw [h0.1] at h1
        have h4 := cat_len e.fr
        have h5 : (cat e.fr).length ≤ e.b.length := by unfold Fi.b; rw [List.length_append]; omega
        unfold rec1
        rw [List.length_map, List.length_tail]
        omega)
      have HLM : Hid (L = O + M) := Lib.hid (by rw [HLO.out.1, List.length_append, hM, HLO.out.2])
      clear hx00 hS2 hdr hmm hr0 hx0 HZ HWR HKR hfi hM HST hk
      generalize wr = wa at *
      go_wp2_with fail
      go_loopw [6, 7, 9, 12] (fun v6 v7 v9 v12 wr => ∃ j : Nat, j ≤ M ∧ v12 = .int .i64 ((O + j : Nat) : Int) ∧ v9 = .bool (goodJ files j) ∧ L2 Y w wr w.heap.size g q m nm most x0 files base j v6 v7) (fun _ _ _ v12 _ => O + M - (intOf v12).toNat)
      case atStart =>
        exact ⟨0, Nat.zero_le _, rfl, rfl, rfl, ⟨Y, [], fun k h => h, HW0.out, Hd.nil _ _ _⟩, HK0.out, HH0.out.2, [], HH0.out.1⟩
      case round =>
        obtain ⟨j, hj, rfl, rfl, hl2⟩ := hrel
        have HL2 := Lib.hid hl2
        clear hl2
        by_cases hjM : j < M
        case neg =>
          obtain rfl : j = M := by omega
          have hfull : files.take j = files := List.take_of_length_le (by rw [← HM.out]; exact Nat.le_refl _)
          obtain ⟨Yd, vs2, hYd, hwa2, hhd2⟩ := HL2.out.mem
          have hok2 := HL2.out.ok
          rw [hfull] at hwa2 hhd2 hok2
          obtain ⟨hrep, hxno⟩ := HS2.out.2 hok2
          have hjkr : recs jk = [] := by
            have : ∀ l : List Fi, (∀ e ∈ l, e.fr = []) → recs l = [] := by
              intro l
              induction l with
              | nil => intro _; rfl
              | cons e l ih =>
                intro h
                rw [show recs (e :: l) = rec1 e ++ recs l by simp [recs], ih fun k hk => h k (List.mem_cons_of_mem _ hk)]
                unfold rec1
                rw [h e List.mem_cons_self]; rfl
            exact this jk fun e he => (HPJ.out.2.1 e he).1
          have hrf : recs files = recs (pre ++ [f]) := by rw [HFI.out, show pre ++ f :: jk = (pre ++ [f]) ++ jk by simp, recs_app, hjkr, List.append_nil]
          rw [hrf, if_neg (by rw [HM.out, HFI.out]; simp)] at hhd2
          obtain ⟨X, hX⟩ : ∃ X, X = (filesW nm x0 files).2 := ⟨_, rfl⟩
          rw [← hX] at hwa2 hrep hxno
          obtain ⟨RR, hRR⟩ : ∃ RR, RR = recs (pre ++ [f]) := ⟨_, rfl⟩
          have hRRl : RR.length ≤ 30000000000 := by
            have h1 := recs_len (K := 268435456) files (fun e he => (HRL.out e he).1)
            have h3 : files.length * 268435456 ≤ 100 * 268435456 := Nat.mul_le_mul_right _ (by have := HLM.out; have := HM.out; omega)
            rw [hRR, ← hrf]
            omega
          rw [← hRR] at hhd2 hrep
          have HRRE := Lib.hid hRR
          obtain ⟨ra7, rc7, e7⟩ := (Rd.of_own hhd2.row).slice
          subst e7
          obtain ⟨x5, hx5⟩ : ∃ x5 : Wl, x5 = { X with count := RR.length } := ⟨_, rfl⟩
          have hx5n : x5.no = f.n := by rw [hx5]; exact hxno
          have HREP : Hid (repW nm x old pre f jk = synW nm x5 x5.no) := Lib.hid (by rw [hrep, hx5n, hx5])
          have hfn := (HHH.out.ok f (by rw [HFI.out]; simp)).n
          have HNOz : Hid (x5.no ≤ 99) := Lib.hid (by rw [hx5n]; exact hfn)
          have HFLz : Hid ((fnm nm x5.no).length ≤ 1000) := Lib.hid (by have := fnm_len nm x5.no HNOz.out; have := HN.out; omega)
          have HHD := Lib.hid hhd2
          have HYD := Lib.hid hYd
          have q5 := hwa2.blk.cell 5 rfl
          have f5 := hwa2.blk.frozen 5
          have HSE : Hid (WA Yd (wr.setCell ⟨g, 5, none⟩ (.int .i64 (RR.length : Int))) g q m nm most x5 ∧ Kp Yd wr (wr.setCell ⟨g, 5, none⟩ (.int .i64 (RR.length : Int)))) := Lib.hid (by
            refine hwa2.set ((Out.refl (fun k => k = g) _).set ⟨g, 5, none⟩ _ rfl) ?_ (by rw [hx5])
            have := hwa2.blk.set 5 (.int .i64 (RR.length : Int))
            rw [hx5]; exact this)
          have HYS := Lib.hid hwa2.ys
          have t2 : ¬ ((O : Int) + (j : Int)) < (L : Int) := by have := HLM.out; omega
          have t3 : ¬ O + j < L := by have := HLM.out; omega
          clear hfull hYd hwa2 hhd2 hok2 hrep hxno hjkr hrf hX hx5 hx5n hfn hRR
          go_wp2_with fail
          generalize wr.setCell ⟨g, 5, none⟩ (.int .i64 (RR.length : Int)) = wz at *
          have HWZ := Lib.hid HSE.out.1
          have HKZ : Hid (Kp Yd wr wz) := Lib.hid HSE.out.2
          refine wp_region_held_drew (S := (fun W => W.cell? ⟨g, 0, none⟩ = some (.pointer (some ⟨q, 0, none⟩)) ∧ W.cell? ⟨g, 3, none⟩ = some (.int .i64 (x5.no : Int)))) (by kernel_rfl) ?_ (fun hHeld1 => ?_)
          · exact ⟨HWZ.out.blk.cell 0 rfl, HWZ.out.blk.cell 3 rfl⟩
          refine wpAnyH_take (i := 0) (oi := ?oi1) (v := ?v1) ?hi1 (by kernel_rfl) (by kernel_rfl) (by kernel_rfl) ?hq1 ?hy1 (by assumption) ?rest1
          case hi1 => (simp only [List.getElem?_toArray, List.getElem?_cons_succ, List.getElem?_cons_zero]; rfl)
          case hq1 => exact fun _ _ _ h => h
          case hy1 => (refine Or.inl ⟨by rfl, ?_⟩; intro W hSw; (try dsimp only at hSw); go_simp; (try with_reducible rfl))
          try simp only [Act.put, List.setIfInBounds_toArray, List.set_cons_zero, List.set_cons_succ]
          refine wpAnyH_take (i := 1) (oi := ?oi2) (v := ?v2) ?hi2 (by kernel_rfl) (by kernel_rfl) (by kernel_rfl) ?hq2 ?hy2 (by assumption) ?rest2
          case hi2 => (simp only [List.getElem?_toArray, List.getElem?_cons_succ, List.getElem?_cons_zero]; rfl)
          case hq2 => exact fun _ _ _ h => h
          case hy2 => (refine Or.inl ⟨by rfl, ?_⟩; intro W hSw; (try dsimp only at hSw); go_simp; (try with_reducible rfl))
          try simp only [Act.put, List.setIfInBounds_toArray, List.set_cons_zero, List.set_cons_succ]
          refine wpAnyH_take (i := 2) (oi := ?oi3) (v := ?v3) ?hi3 (by kernel_rfl) (by kernel_rfl) (by kernel_rfl) ?hq3 ?hy3 (by assumption) ?rest3
          case hi3 => (simp only [List.getElem?_toArray, List.getElem?_cons_succ, List.getElem?_cons_zero]; rfl)
          case hq3 => exact fun _ _ _ h => h
          case hy3 => (refine Or.inl ⟨by rfl, ?_⟩; intro W hSw; (try dsimp only at hSw); go_simp; (try with_reducible rfl))
          try simp only [Act.put, List.setIfInBounds_toArray, List.set_cons_zero, List.set_cons_succ]
          refine wpAnyH_take (i := 3) (oi := ?oi4) (v := ?v4) ?hi4 (by kernel_rfl) (by kernel_rfl) (by kernel_rfl) ?hq4 ?hy4 (by assumption) ?rest4
          case hi4 => (simp only [List.getElem?_toArray, List.getElem?_cons_succ, List.getElem?_cons_zero]; rfl)
          case hq4 => exact fun _ _ _ h => h
          case hy4 => (refine Or.inl ⟨by rfl, ?_⟩; intro W hSw; (try dsimp only at hSw); go_simp; (try with_reducible rfl))
          try simp only [Act.put, List.setIfInBounds_toArray, List.set_cons_zero, List.set_cons_succ]
          refine wpAnyH_take (i := 4) (oi := ?oi5) (v := ?v5) ?hi5 (by kernel_rfl) (by kernel_rfl) (by kernel_rfl) ?hq5 ?hy5 (by assumption) ?rest5
          case hi5 => (simp only [List.getElem?_toArray, List.getElem?_cons_succ, List.getElem?_cons_zero]; rfl)
          case hq5 => exact fun _ _ _ h => h
          case hy5 => (refine Or.inl ⟨by rfl, ?_⟩; intro W hSw; (try dsimp only at hSw); go_simp; (try with_reducible rfl))
          try simp only [Act.put, List.setIfInBounds_toArray, List.set_cons_zero, List.set_cons_succ]
          refine wpAnyH_take (i := 5) (oi := ?oi6) (v := ?v6) ?hi6 (by kernel_rfl) (by kernel_rfl) (by kernel_rfl) ?hq6 ?hy6 (by assumption) ?rest6
          case hi6 => (simp only [List.getElem?_toArray, List.getElem?_cons_succ, List.getElem?_cons_zero]; rfl)
          case hq6 => exact fun _ _ _ h => h
          case hy6 => (refine Or.inl ⟨by rfl, ?_⟩; intro W hSw; (try dsimp only at hSw); go_simp; (try with_reducible rfl))
          try simp only [Act.put, List.setIfInBounds_toArray, List.set_cons_zero, List.set_cons_succ]
          refine wpAnyH_take (i := 6) (oi := ?oi7) (v := ?v7) ?hi7 (by kernel_rfl) (by kernel_rfl) (by kernel_rfl) ?hq7 ?hy7 (by assumption) ?rest7
          case hi7 => (simp only [List.getElem?_toArray, List.getElem?_cons_succ, List.getElem?_cons_zero]; rfl)
          case hq7 => exact fun _ _ _ h => h
          case hy7 => (refine Or.inl ⟨by rfl, ?_⟩; intro W hSw; (try dsimp only at hSw); go_simp; (try with_reducible rfl))
          try simp only [Act.put, List.setIfInBounds_toArray, List.set_cons_zero, List.set_cons_succ]
          refine wpAnyH_take (i := 7) (oi := ?oi8) (v := ?v8) ?hi8 (by kernel_rfl) (by kernel_rfl) (by kernel_rfl) ?hq8 ?hy8 (by assumption) ?rest8
          case hi8 => (simp only [List.getElem?_toArray, List.getElem?_cons_succ, List.getElem?_cons_zero]; rfl)
          case hq8 => exact fun _ _ _ h => h
          case hy8 => (refine Or.inl ⟨by rfl, ?_⟩; intro W hSw; (try dsimp only at hSw); go_simp; (try with_reducible rfl))
          try simp only [Act.put, List.setIfInBounds_toArray, List.set_cons_zero, List.set_cons_succ]
          refine wpAnyH_take (i := 8) (oi := ?oi9) (v := ?v9) ?hi9 (by kernel_rfl) (by kernel_rfl) (by kernel_rfl) ?hq9 ?hy9 (by assumption) ?rest9
          case hi9 => (simp only [List.getElem?_toArray, List.getElem?_cons_succ, List.getElem?_cons_zero]; rfl)
          case hq9 => exact fun _ _ _ h => h
          case hy9 => (refine Or.inl ⟨by rfl, ?_⟩; intro W hSw; (try dsimp only at hSw); go_simp; (try with_reducible rfl))
          try simp only [Act.put, List.setIfInBounds_toArray, List.set_cons_zero, List.set_cons_succ]
          refine wpAnyH_take (i := 9) (oi := ?oi10) (v := ?v10) ?hi10 (by kernel_rfl) (by kernel_rfl) (by kernel_rfl) ?hq10 ?hy10 (by assumption) ?rest10
          case hi10 => (simp only [List.getElem?_toArray, List.getElem?_cons_succ, List.getElem?_cons_zero]; rfl)
          case hq10 => exact fun _ _ _ h => h
          case hy10 => (refine Or.inl ⟨by rfl, ?_⟩; intro W hSw; (try dsimp only at hSw); go_simp; (try with_reducible rfl))
          try simp only [Act.put, List.setIfInBounds_toArray, List.set_cons_zero, List.set_cons_succ]
          refine wpAnyH_take (i := 10) (oi := ?oi11) (v := ?v11) ?hi11 (by kernel_rfl) (by kernel_rfl) (by kernel_rfl) ?hq11 ?hy11 (by assumption) ?rest11
          case hi11 => (simp only [List.getElem?_toArray, List.getElem?_cons_succ, List.getElem?_cons_zero]; rfl)
          case hq11 => exact fun _ _ _ h => h
          case hy11 => (refine Or.inl ⟨by rfl, ?_⟩; intro W hSw; (try dsimp only at hSw); go_simp; (try with_reducible rfl))
          try simp only [Act.put, List.setIfInBounds_toArray, List.set_cons_zero, List.set_cons_succ]
          refine wpAnyH_take (i := 11) (oi := ?oi12) (v := ?v12) ?hi12 (by kernel_rfl) (by kernel_rfl) (by kernel_rfl) ?hq12 ?hy12 (by assumption) ?rest12
          case hi12 => (simp only [List.getElem?_toArray, List.getElem?_cons_succ, List.getElem?_cons_zero]; rfl)
          case hq12 => exact fun _ _ _ h => h
          case hy12 => (refine Or.inl ⟨by rfl, ?_⟩; intro W hSw; (try dsimp only at hSw); go_simp; (try with_reducible rfl))
          try simp only [Act.put, List.setIfInBounds_toArray, List.set_cons_zero, List.set_cons_succ]
          refine wpAnyH_ready (rs := [12]) (by kernel_rfl) (by simp) ?_
          refine AllReadyH.cons (o := ?oi13) ?hi13 (fun K hK => ?hs13) AllReadyH.nil
          case hi13 => (simp only [List.getElem?_toArray, List.getElem?_cons_succ, List.getElem?_cons_zero]; rfl)
          go_simp
          refine (file_any g _ nm x5.no _ _ HWZ.out.drew.blk rfl HN.out HNOz.out).mono ?_
          rintro e w1z ⟨rfl, hb1⟩
          have HW1z := Lib.hid (HWZ.out.drew.below hb1)
          have HP1z := Lib.hid (HKZ.out.drew.trans (Kp.of_below hb1))
          have HB1z := Lib.hid hb1
          clear hb1
          go_wp2_with fail
          refine hK.out _ _ ?_ (fun hHeld2 => ?_)
          · exact ⟨HW1z.out.blk.cell 0 rfl, HW1z.out.blk.cell 3 rfl⟩
          clear hK
          try simp only [Act.put, List.setIfInBounds_toArray, List.set_cons_zero, List.set_cons_succ]
          refine wpAnyH_ready (rs := [13]) (by kernel_rfl) (by simp) ?_
          refine AllReadyH.cons (o := ?oi14) ?hi14 (fun K hK => ?hs14) AllReadyH.nil
          case hi14 => (simp only [List.getElem?_toArray, List.getElem?_cons_succ, List.getElem?_cons_zero]; rfl)
          go_simp
          refine (syn_py q m x5.st (fnm nm x5.no) _ HW1z.out.pa HFLz.out).mono ?_
          rintro e w2z ⟨rfl, hp2, hk2⟩
          have HW2z := Lib.hid (HW1z.out.plate (x' := { x5 with st := (syn x5.st (fnm nm x5.no)).2 }) hp2 hk2 rfl).1
          have HP2z := Lib.hid (HP1z.out.trans (HW1z.out.plate (x' := { x5 with st := (syn x5.st (fnm nm x5.no)).2 }) hp2 hk2 rfl).2)
          clear hp2 hk2
          go_wp2_with fail
          refine hK.out _ _ ?_ (fun hHeld2 => ?_)
          · exact ⟨HW2z.out.blk.cell 0 rfl, HW2z.out.blk.cell 3 rfl⟩
          clear hK
          try simp only [Act.put, List.setIfInBounds_toArray, List.set_cons_zero, List.set_cons_succ]
          refine wpAnyH_ready (rs := [14]) (by kernel_rfl) (by simp) ?_
          refine AllReadyH.cons (o := ?oi15) ?hi15 (fun K hK => ?hs15) AllReadyH.nil
          case hi15 => (simp only [List.getElem?_toArray, List.getElem?_cons_succ, List.getElem?_cons_zero]; rfl)
          go_simp
          have HW3z := Lib.hid (HW2z.out.alloc (.cells #[.int .i64 (((syn x5.st (fnm nm x5.no)).1 : Nat) : Int)] 24))
          have HP3z := Lib.hid (HP2z.out.alloc (.cells #[.int .i64 (((syn x5.st (fnm nm x5.no)).1 : Nat) : Int)] 24))
          have HR3z := Lib.hid (rd_one w2z (.int .i64 (((syn x5.st (fnm nm x5.no)).1 : Nat) : Int)) 24)
          refine hK.out _ _ ?_ (fun hHeld3 => ?_)
          · exact ⟨HW3z.out.blk.cell 0 rfl, HW3z.out.blk.cell 3 rfl⟩
          clear hK
          try simp only [Act.put, List.setIfInBounds_toArray, List.set_cons_zero, List.set_cons_succ]
          refine wpAnyH_ready (rs := [15]) (by kernel_rfl) (by simp) ?_
          refine AllReadyH.cons (o := ?oi16) ?hi16 (fun K hK => ?hs16) AllReadyH.nil
          case hi16 => (simp only [List.getElem?_toArray, List.getElem?_cons_succ, List.getElem?_cons_zero]; rfl)
          go_simp
          refine (first_any g q m nm most _ _ _ _ HW3z.out HR3z.out (by have := syn_le x5.st (fnm nm x5.no); omega)).mono ?_
          rintro e w4z ⟨rfl, hw4, hk4⟩
          have HW4z := Lib.hid hw4
          have HP4z := Lib.hid (HP3z.out.trans hk4)
          clear hw4 hk4
          go_wp2_with fail
          refine hK.out _ _ ?_ (fun hHeld2 => ?_)
          · exact ⟨HW4z.out.blk.cell 0 rfl, HW4z.out.blk.cell 3 rfl⟩
          clear hK
          try simp only [Act.put, List.setIfInBounds_toArray, List.set_cons_zero, List.set_cons_succ]
          refine wpAnyH_take (i := 16) (oi := ?oi17) (v := ?v17) ?hi17 (by kernel_rfl) (by kernel_rfl) (by kernel_rfl) ?hq17 ?hy17 (by assumption) ?rest17
          case hi17 => (simp only [List.getElem?_toArray, List.getElem?_cons_succ, List.getElem?_cons_zero]; rfl)
          case hq17 => exact fun _ _ _ h => h
          case hy17 => (refine Or.inl ⟨by rfl, ?_⟩; intro W hSw; (try dsimp only at hSw); go_simp; (try with_reducible rfl))
          try simp only [Act.put, List.setIfInBounds_toArray, List.set_cons_zero, List.set_cons_succ]
          refine wpAnyH_take (i := 17) (oi := ?oi18) (v := ?v18) ?hi18 (by kernel_rfl) (by kernel_rfl) (by kernel_rfl) ?hq18 ?hy18 (by assumption) ?rest18
          case hi18 => (simp only [List.getElem?_toArray, List.getElem?_cons_succ, List.getElem?_cons_zero]; rfl)
          case hq18 => exact fun _ _ _ h => h
          case hy18 => (refine Or.inl ⟨by rfl, ?_⟩; intro W hSw; (try dsimp only at hSw); go_simp; (try with_reducible rfl))
          try simp only [Act.put, List.setIfInBounds_toArray, List.set_cons_zero, List.set_cons_succ]
          refine wpAnyH_take (i := 18) (oi := ?oi19) (v := ?v19) ?hi19 (by kernel_rfl) (by kernel_rfl) (by kernel_rfl) ?hq19 ?hy19 (by assumption) ?rest19
          case hi19 => (simp only [List.getElem?_toArray, List.getElem?_cons_succ, List.getElem?_cons_zero]; rfl)
          case hq19 => exact fun _ _ _ h => h
          case hy19 => (refine Or.inl ⟨by rfl, ?_⟩; intro W hSw; (try dsimp only at hSw); go_simp; (try with_reducible rfl))
          try simp only [Act.put, List.setIfInBounds_toArray, List.set_cons_zero, List.set_cons_succ]
          refine wpAnyH_done (by kernel_rfl) ?_ _
          go_wp2_with fail
          go_ret3
          refine ⟨synW nm x5 x5.no, u6, .slice ra7 RR.length rc7, vs2, Yd, by rw [HREP.out], by rw [HREP.out], fun _ => HREP.out.symm, rfl, HYD.out, HW4z.out, HL2.out.kp.trans (HP4z.out.mono HYD.out), fun _ => ?_⟩
          rw [← HRRE.out]
          exact HHD.out.keep fun k hk => HP4z.out.block (HYS.out k hk) hk
        case pos =>
        obtain ⟨I, hI⟩ : ∃ I, I = O + j := ⟨_, rfl⟩
        rw [← hI]
        have HI := Lib.hid hI
        have t2 : (I : Int) < (L : Int) := by have := HLM.out; omega
        have hIL : I < L := by omega
        obtain ⟨gd, hgd⟩ : ∃ gd, gd = goodJ files j := ⟨_, rfl⟩
        rw [← hgd]
        have HGD := Lib.hid hgd
        clear hgd
        obtain ⟨fi, hfj⟩ : ∃ fi, files[j]? = some fi := ⟨_, List.getElem?_eq_getElem (by rw [← HM.out]; exact hjM)⟩
        have hfd : (old ++ files)[I]? = some fi := by rw [List.getElem?_append_right (by rw [hI, ← HLO.out.2]; omega), show I - old.length = j by rw [hI, ← HLO.out.2]; omega]; exact hfj
        obtain ⟨Yc, vs, hYc, hwa, hhd⟩ := HL2.out.mem
        obtain ⟨A0, hA0⟩ := HL2.out.hl
        have hdj : files.drop j = fi :: files.drop (j + 1) := by
          have hj' := List.getElem?_eq_some_iff.1 hfj
          rw [List.drop_eq_getElem_cons hj'.1, hj'.2]
        rw [hdj] at hA0
        have hok := hA0.ok fi (by simp)
        obtain ⟨X, hX⟩ : ∃ X, X = (filesW nm x0 (files.take j)).2 := ⟨_, rfl⟩
        have HNX := Lib.hid (filesW_next (x := x0) (nm := nm) hfj HL2.out.ok)
        have hdn := HL2.out.dn
        rw [← hX] at hwa hA0 HNX hdn
        have hgb := hA0.gB hwa.py.fit.asc (f := fi) (by simp)
        have HCH : Hid ((∃ rs : List By, fi.fr = hdr j base :: rs.map fun r => (2, r)) ∨ (fi.fr = [] ∧ fi.p ≠ [] ∧ j ≠ 0)) := Lib.hid (by
          by_cases hjp : j ≤ pre.length
          · refine .inl (HPJ.out.2.2.2.hd j fi ?_)
            rw [HFI.out, show pre ++ f :: jk = (pre ++ [f]) ++ jk by simp, List.getElem?_append_left (by simp; omega)] at hfj
            exact hfj
          · have hmem : fi ∈ jk := by
              rw [HFI.out, show pre ++ f :: jk = (pre ++ [f]) ++ jk by simp, List.getElem?_append_right (by simp; omega)] at hfj
              exact List.mem_of_getElem? hfj
            exact .inr ⟨(HPJ.out.2.1 fi hmem).1, (HPJ.out.2.1 fi hmem).2, by omega⟩)
        have HGF : Hid (gd = false → fi.fr = [] ∧ fi.p ≠ []) := Lib.hid (fun e => by
          by_cases hjp : j ≤ pre.length
          · rw [HGD.out, HFI.out, goodJ_pre (fun g hg => (HPJ.out.1 g hg).1) hjp] at e; cases e
          · have hmem : fi ∈ jk := by
              rw [HFI.out, show pre ++ f :: jk = (pre ++ [f]) ++ jk by simp, List.getElem?_append_right (by simp; omega)] at hfj
              exact List.mem_of_getElem? hfj
            exact HPJ.out.2.1 fi hmem)
        have HWX := Lib.hid hwa
        have HHD := Lib.hid hhd
        have HYC := Lib.hid hYc
        have HOK := Lib.hid hok
        have HFJ := Lib.hid (And.intro hfj hX)
        have HFD := Lib.hid hfd
        have hIM : I < O + M := by omega
        have HFW := Lib.hid (fun h0 => file_ways nm X A0 (files.drop (j + 1)) fi hA0 hwa.py.fit.asc HN.out hdn h0)
        have HNEXT : Hid (∀ (wz : World) (v6 v7 : Value), (fileW nm X fi).1 = 0 → (∃ Yc vs, (∀ k, Y k → Yc k) ∧ WA Yc wz g q m nm most (fileW nm X fi).2 ∧ Hd Yc wz w.heap.size v7 vs (recs (files.take (j + 1))) v6 (some base)) → Kp Y w wz → L2 Y w wz w.heap.size g q m nm most x0 files base (j + 1) v6 v7) := Lib.hid (fun wz v6 v7 h0 h1 h2 => by
          obtain ⟨n1, n2⟩ := HNX.out.1 h0
          obtain ⟨n3, A', n4⟩ := HFW.out h0
          exact ⟨n1, by rw [n2, if_neg (by omega)]; exact h1, h2, by rw [n2]; exact n3, A', by rw [n2]; exact n4⟩)
        have hrd2 := rd_keep HRD.out (fun b hb => HL2.out.kp.block (HW.out.ys b (HLY.out b hb)) (HLY.out b hb))
        have HGB : Hid (Pt.gB X.st.fs (fnm nm fi.n) = fi.b) := Lib.hid hgb.1
        obtain ⟨nb, no, ncap, e1, hncap, hnc⟩ := hrd2.pos (by omega)
        cases e1
        have z1 : wr.cell? ⟨nb, no + I, none⟩ = some (.int .i64 (fi.n : Int)) := hnc I (iv fi.n) (by rw [List.getElem?_map, hfd]; rfl)
        have HPV : Hid (j ≠ 0 → fi.fr ≠ [] → ∃ N1 : Nat, N1 + 1 = fi.n ∧ wr.cell? ⟨nb, no + (I - 1), none⟩ = some (.int .i64 (N1 : Int))) := Lib.hid (fun h0 hne => by
          have hjp : j ≤ pre.length := by
            rcases Nat.lt_or_ge pre.length j with h' | h'
            · have hmem : fi ∈ jk := by
                rw [HFI.out, show pre ++ f :: jk = (pre ++ [f]) ++ jk by simp, List.getElem?_append_right (by simp; omega)] at hfj
                exact List.mem_of_getElem? hfj
              exact absurd (HPJ.out.2.1 fi hmem).1 hne
            · exact h'
          have hfj2 : (pre ++ [f])[j]? = some fi := by
            rw [HFI.out, show pre ++ f :: jk = (pre ++ [f]) ++ jk by simp, List.getElem?_append_left (by simp; omega)] at hfj
            exact hfj
          obtain ⟨fp, hfp⟩ : ∃ fp, (pre ++ [f])[j - 1]? = some fp := ⟨_, List.getElem?_eq_getElem (by simp; omega)⟩
          have n1 := HPJ.out.2.2.2.num j fi hfj2
          have n2 := HPJ.out.2.2.2.num (j - 1) fp hfp
          refine ⟨fp.n, by omega, hnc (I - 1) (iv fp.n) ?_⟩
          rw [List.getElem?_map, List.getElem?_append_right (by rw [hI, ← HLO.out.2]; omega), show I - 1 - old.length = j - 1 by rw [hI, ← HLO.out.2]; omega, HFI.out, show pre ++ f :: jk = (pre ++ [f]) ++ jk by simp, List.getElem?_append_left (by simp; omega), hfp]
          rfl)
        have HFN := Lib.hid (file_any g _ nm fi.n _ wr hwa.blk rfl HN.out hok.n)
        have hfl := fnm_len nm fi.n hok.n
        have hRD := fun W hb => read_py q m X.st (fnm nm fi.n) W (hwa.py.below (W' := W) hb) (by have := HN.out; omega)
        have hask : askedC X.st.down (fnm nm fi.n) = 0 := by unfold askedC; rw [if_neg (by have := HN.out; omega), hdn]; rfl
        rw [hask, if_pos rfl, hgb.1] at hRD
        have HRE := Lib.hid hRD
        obtain ⟨y14, hy14⟩ : ∃ y, y = fnm nm fi.n := ⟨_, rfl⟩
        rw [← hy14] at HFN HRE
        have HY14 := Lib.hid hy14
        have q0 := hwa.blk.cell 0 rfl
        clear hfj hfd hYc hwa hhd hA0 hdj hok hX hdn hgb hrd2 hnc hfl hRD hask hy14 hI
        go_wp2_with fail
        refine HFN.out.mono ?_
        rintro e wb ⟨rfl, hb1⟩
        have HB1 := Lib.hid hb1
        have q1 := (HWX.out.below hb1).blk.cell 0 rfl
        have hrd3 := HRE.out wb hb1
        have HRE3 := Lib.hid hrd3
        clear hb1 hrd3 HFN HRE
        go_wp2_with fail
        refine HRE3.out.mono ?_
        rintro e wc ⟨v14, rfl, hown, hb2⟩
        obtain ⟨va, vc, e14⟩ := (Rd.of_own hown).slice
        subst e14
        have HL30 : Hid (L3 Y w wc w.heap.size g q m nm most X (.slice va fi.b.length vc) fi.b (recs (files.take j)) (if j = 0 then none else some base) u6 u7) := Lib.hid (by
          have hbb := HB1.out.trans (hb2.mono HB1.out.size)
          refine ⟨⟨Yc, vs, HYC.out, HWX.out.below hbb, HHD.out.keep fun k hk => hbb.block k (HWX.out.ys k hk)⟩, HL2.out.kp.trans (Kp.of_below hbb), Rd.of_own hown, fun k hk => ⟨(hown.lt k hk).2, fun e => ?_⟩⟩
          have h1 := (hown.lt k hk).1
          have h2 := HWX.out.ys k (HHD.out.yr k e)
          have h3 := HB1.out.size
          omega)
        obtain ⟨bb, off, vc', e15, hvc, _⟩ := (Rd.of_own hown).pos (List.length_pos_iff.2 HOK.out.ne)
        cases e15
        have HBC : Hid (wr.heap.size ≤ wc.heap.size) := Lib.hid (by have := HB1.out.size; have := hb2.size; omega)
        obtain ⟨BL, hBL⟩ : ∃ BL, BL = fi.b.length := ⟨_, rfl⟩
        rw [← hBL] at HL30 hvc ⊢
        have HBL := Lib.hid hBL
        have hBL9 : BL ≤ 268435456 := by
          have h1 := tot_lay ⟨fnm nm fi.n, [], 0⟩ X.st.fs HWX.out.py.fit.asc
          simp only [List.length_nil, Nat.add_zero] at h1
          have h2 := HWX.out.py.fit.room
          have h3 := HWX.out.py.fit.tot
          have h4 := HGB.out
          rw [h4, ← hBL] at h1
          omega
        clear hown hb2 hBL HRE3 q0 q1
        go_wp2_with fail
        go_loopw [6, 7, 9, 16] (fun v6 v7 v9 v16 wr3 => ∃ t : Nat, t ≤ fi.fr.length ∧ v16 = .int .i64 ((cat (fi.fr.take t)).length : Int) ∧ v9 = .bool gd ∧ (gd = false → t = 0) ∧ wc.heap.size ≤ wr3.heap.size ∧ L3 Y w wr3 w.heap.size g q m nm most X (.slice (some ⟨bb, off, none⟩) BL vc) fi.b (recs (files.take j) ++ (fi.fr.take t).tail.map Prod.snd) (if j = 0 ∧ t = 0 then none else some base) v6 v7) (fun _ _ _ v16 _ => BL - (intOf v16).toNat)
        case atStart =>
          refine ⟨0, Nat.zero_le _, rfl, rfl, fun _ => rfl, Nat.le_refl _, ?_⟩
          have h := HL30.out
          simp only [List.take_zero, List.tail_nil, List.map_nil, List.append_nil, and_true]
          exact h
        case round =>
          obtain ⟨t, ht, rfl, rfl, hgt, hsz3, hl3⟩ := hrel
          have HL3 := Lib.hid hl3
          have HSZ3 := Lib.hid hsz3
          clear hl3 hsz3 HL30
          cases gd with
          | false =>
            have ht0 : t = 0 := hgt rfl
            have HTF : Hid (t = fi.fr.length) := Lib.hid (by rw [(HGF.out rfl).1, ht0]; rfl)
            have HPE2 : Hid (¬ fi.p = []) := Lib.hid (HGF.out rfl).2
            have HFRN : Hid (fi.fr = []) := Lib.hid (HGF.out rfl).1
            have HBO : Hid (¬ (j = 0 ∧ t = 0)) := Lib.hid (by
              rcases HCH.out with ⟨rs, e⟩ | ⟨_, _, e⟩
              · rw [HFRN.out] at e; cases e
              · exact fun h => e h.1)
            obtain ⟨A, hA⟩ : ∃ A, A = (cat (fi.fr.take t)).length := ⟨_, rfl⟩
            rw [← hA]
            have HA0 : Hid (A = 0) := Lib.hid (by rw [hA, ht0, List.take_zero]; rfl)
            have HAF : Hid (A = (cat fi.fr).length) := Lib.hid (by rw [HFRN.out, HA0.out]; rfl)
            have HAB : Hid (A < BL) := Lib.hid (by rw [HA0.out, HBL.out]; exact List.length_pos_iff.2 HOK.out.ne)
            clear hA hgt ht0
            obtain ⟨Yd, vs2, hYd, hwa2, hhd2⟩ := HL3.out.mem
            have HYD := Lib.hid hYd
            have HWD := Lib.hid hwa2
            have HKD := Lib.hid HL3.out.kp
            have hrec : recs (files.take j) ++ (fi.fr.take t).tail.map Prod.snd = recs (files.take (j + 1)) := by
              rw [recs_next HFJ.out.1, HTF.out, List.take_length]; rfl
            rw [hrec, if_neg HBO.out] at hhd2
            have HHE := Lib.hid hhd2
            clear hYd hwa2 hhd2 hrec
            have u1 : ¬ (0 : Int) < (A : Int) := by have := HA0.out; omega
            have u2 : (A : Int) < (BL : Int) := by have := HAB.out; omega
            have qz0 := HWD.out.blk.cell 0 rfl
            have HFE : Hid (fileW nm X fi = fst1 X (cut X.st y14 (A : Int))) := Lib.hid (by unfold fileW; rw [if_neg HPE2.out, if_pos HFRN.out, ← HAF.out, HY14.out]; rfl)
            have HCU := Lib.hid (cut_py q m X.st y14 (A : Int) wr HWD.out.pa (by have := fnm_len nm fi.n HOK.out.n; have := HN.out; rw [HY14.out]; omega))
            go_wp2_with fail
            refine HCU.out.mono ?_
            rintro e w2 ⟨rfl, hp2, hk2⟩
            have hpl := HWD.out.plate (x' := { X with st := (cut X.st y14 (A : Int)).2 }) hp2 hk2 rfl
            have HW2 := Lib.hid hpl.1
            have HP2 := Lib.hid hpl.2
            have HW3 := Lib.hid (hpl.1.alloc (.cells #[.int .i64 (((cut X.st y14 (A : Int)).1 : Nat) : Int)] 24))
            have HP3 := Lib.hid (hpl.2.alloc (.cells #[.int .i64 (((cut X.st y14 (A : Int)).1 : Nat) : Int)] 24))
            have HR3 := Lib.hid (rd_one w2 (.int .i64 (((cut X.st y14 (A : Int)).1 : Nat) : Int)) 24)
            clear hp2 hk2 hpl HCU qz0
            go_wp2_with fail
            refine (first_any g q m nm most _ _ _ _ HW3.out HR3.out (by have := cut_le X.st y14 (A : Int); omega)).mono ?_
            rintro e w4 ⟨rfl, hw4, hk4⟩
            obtain ⟨r, hr⟩ : ∃ r, r = fileW nm X fi := ⟨_, rfl⟩
            have e1 : (cut X.st y14 (A : Int)).1 = r.1 := by rw [hr, HFE.out]; rfl
            have HW4 : Hid (WA Yd w4 g q m nm most r.2) := Lib.hid (by rw [hr, HFE.out]; exact hw4)
            have HP4 : Hid (Kp Yd wr w4) := Lib.hid (HP3.out.trans hk4)
            rw [e1]
            rw [← hr] at HNEXT HNX HFE
            have HRR := Lib.hid hr
            clear hw4 hk4 e1 hr HW2 HW3 HP2 HP3 HR3
            by_cases h0 : r.1 = 0
            case pos =>
              have HEE := Lib.hid (HNEXT.out w4 u6 u7 h0 ⟨Yd, vs2, HYD.out, HW4.out, HHE.out.keep fun k hk => HP4.out.block (HWD.out.ys k hk) hk⟩ (HKD.out.trans (HP4.out.mono HYD.out)))
              rw [h0]
              go_wp2_with fail
              go_roundw
              case rel => exact ⟨j + 1, by omega, by have := HI.out; go_num, by rw [goodJ_next HFJ.out.1, Bool.eq_false_iff.2 (show fi.p.isEmpty ≠ true by intro e; exact HPE2.out (List.isEmpty_iff.1 e)), Bool.and_false], HEE.out⟩
              case measure => simp [intOf]; omega
            case neg =>
              have HNN := Lib.hid (HNX.out.2 h0)
              have HH0' := Lib.hid h0
              obtain ⟨c, hc⟩ : ∃ c, c = r.1 := ⟨_, rfl⟩
              rw [← hc]
              have HC := Lib.hid hc
              have t5 : ((c : Int) != 0) = true := by rw [bne_iff_ne]; omega
              have t6 : ((c : Int) == 0) = false := by rw [beq_eq_false_iff_ne]; omega
              have t7 : ¬ (c : Int) = 0 := by omega
              clear hc h0
              go_wp2_with fail
              go_ret3
              have h1 := HS2.out.1 (by rw [HNN.out]; exact HH0'.out)
              rw [HNN.out] at h1
              exact ⟨r, .slice none 0 0, .slice none 0 0, [], Yd, h1.1.symm, h1.2.symm, fun e => absurd (h1.1.symm.trans e) HH0'.out, by rw [← HC.out]; rfl, HYD.out, HW4.out, HKD.out.trans (HP4.out.mono HYD.out), fun e => absurd e HH0'.out⟩
          | true =>
            obtain ⟨A, hA⟩ : ∃ A, A = (cat (fi.fr.take t)).length := ⟨_, rfl⟩
            rw [← hA]
            have HA := Lib.hid hA
            have hfb : fi.b = cat (fi.fr.take t) ++ (cat (fi.fr.drop t) ++ fi.p) := by unfold Fi.b; rw [← List.append_assoc, ← cat_app, List.take_append_drop]
            have hlb : BL = A + (cat (fi.fr.drop t) ++ fi.p).length := by rw [HBL.out, hfb, List.length_append, hA]
            have HLB := Lib.hid hlb
            have HFB := Lib.hid hfb
            by_cases htl : t < fi.fr.length
            case neg =>
              have htf : t = fi.fr.length := by omega
              have HTF := Lib.hid htf
              have HAF : Hid (A = (cat fi.fr).length) := Lib.hid (by rw [hA, htf, List.take_length])
              by_cases hpe : fi.p = []
              case pos =>
                have HPE2 := Lib.hid hpe
                have hfr : fi.fr ≠ [] := fun e => HOK.out.ne (by unfold Fi.b; rw [e, hpe]; rfl)
                have HFRN := Lib.hid hfr
                have HBO : Hid (¬ (j = 0 ∧ t = 0)) := Lib.hid (fun h => hfr (List.eq_nil_of_length_eq_zero (by rw [← htf]; exact h.2)))
                have HAB : Hid (A = BL) := Lib.hid (by rw [HAF.out, HBL.out]; unfold Fi.b; rw [hpe, List.append_nil])
                have HA0 : Hid (0 < A) := Lib.hid (by rw [HAB.out, HBL.out]; exact List.length_pos_iff.2 HOK.out.ne)
                clear hA hgt hfb hlb htl htf hpe hfr
                obtain ⟨Yd, vs2, hYd, hwa2, hhd2⟩ := HL3.out.mem
                have HYD := Lib.hid hYd
                have HWD := Lib.hid hwa2
                have HKD := Lib.hid HL3.out.kp
                have hrec : recs (files.take j) ++ (fi.fr.take t).tail.map Prod.snd = recs (files.take (j + 1)) := by
                  rw [recs_next HFJ.out.1, HTF.out, List.take_length]; rfl
                rw [hrec, if_neg HBO.out] at hhd2
                have HHE := Lib.hid hhd2
                clear hYd hwa2 hhd2 hrec
                have hrd5 := rd_keep HRD.out (fun b hb => HKD.out.block (HW.out.ys b (HLY.out b hb)) (HLY.out b hb))
                obtain ⟨nb', no', nc', e5, hn5, hc5⟩ := hrd5.pos (by omega)
                cases e5
                have z5 : wr.cell? ⟨nb, no + I, none⟩ = some (.int .i64 (fi.n : Int)) := hc5 I (iv fi.n) (by rw [List.getElem?_map, HFD.out]; rfl)
                have q3 := HWD.out.blk.cell 3 rfl
                have q4 := HWD.out.blk.cell 4 rfl
                have f3 := HWD.out.blk.frozen 3
                have f4 := HWD.out.blk.frozen 4
                have HSE : Hid (WA Yd ((wr.setCell ⟨g, 3, none⟩ (.int .i64 (fi.n : Int))).setCell ⟨g, 4, none⟩ (.int .i64 (A : Int))) g q m nm most (setW X fi.n A) ∧ Kp Yd wr ((wr.setCell ⟨g, 3, none⟩ (.int .i64 (fi.n : Int))).setCell ⟨g, 4, none⟩ (.int .i64 (A : Int)))) := Lib.hid (by
                  refine HWD.out.set (((Out.refl (fun k => k = g) _).set ⟨g, 3, none⟩ _ rfl).set ⟨g, 4, none⟩ _ rfl) ?_ rfl
                  exact (HWD.out.blk.set 3 (.int .i64 (fi.n : Int))).set 4 (.int .i64 (A : Int)))
                have u1 : (0 : Int) < (A : Int) := by have := HA0.out; omega
                clear hrd5 hc5 hn5
                have HFE : Hid (fileW nm X fi = (0, setW X fi.n A)) := Lib.hid (by unfold fileW; rw [if_pos HPE2.out, if_neg HFRN.out, HAF.out])
                have u2 : ¬ (A : Int) < (BL : Int) := by have := HAB.out; omega
                go_wp2_with fail
                generalize (wr.setCell ⟨g, 3, none⟩ (.int .i64 (fi.n : Int))).setCell ⟨g, 4, none⟩ (.int .i64 (A : Int)) = wz at *
                have HEE := Lib.hid (HNEXT.out wz u6 u7 (by rw [HFE.out]) ⟨Yd, vs2, HYD.out, by rw [HFE.out]; exact HSE.out.1, HHE.out.keep fun k hk => HSE.out.2.block (HWD.out.ys k hk) hk⟩ (HKD.out.trans (HSE.out.2.mono HYD.out)))
                go_wp2_with fail
                go_roundw
                case rel => exact ⟨j + 1, by omega, by have := HI.out; go_num, by rw [goodJ_next HFJ.out.1, ← HGD.out, HPE2.out]; rfl, HEE.out⟩
                case measure => simp [intOf]; omega
              case neg =>
                have HPE2 : Hid (¬ fi.p = []) := Lib.hid hpe
                have hdr : fi.fr.drop t = [] := by rw [htf]; exact List.drop_length
                rw [hdr] at hfb hlb
                simp only [cat, List.nil_append] at hfb hlb
                have hpp := List.length_pos_iff.2 hpe
                have hAB : A < BL := by omega
                have HAB := Lib.hid hAB
                have hsl := by_from bb off BL vc A (by omega) (by omega)
                have HNB := Lib.hid (next_bad fi.p (.slice (some ⟨bb, off + A, none⟩) (BL - A) (vc - A)) wr HOK.out.p (by
                  have h := HL3.out.rd
                  rw [← HBL.out, hfb] at h
                  have h2 := rd_from h (by rw [← hA]; omega) (by rw [← hA]; omega)
                  rw [← hA] at h2
                  rw [show fi.p.length = BL - A by omega]
                  exact h2) (by omega))
                have u2 : (A : Int) < (BL : Int) := by omega
                have u3 : (A : Int) ≤ (BL : Int) := by omega
                have u4 : (0 : Int) ≤ (A : Int) := by omega
                have HEQ : Hid (t = 0 → fi.fr = []) := Lib.hid (fun e => List.eq_nil_of_length_eq_zero (by omega))
                have HEQ2 : Hid (fi.fr = [] → A = 0) := Lib.hid (fun e => by rw [HAF.out, e]; rfl)
                have HEQ3 : Hid (fi.fr ≠ [] → 0 < A) := Lib.hid (fun e => by
                  rw [HAF.out]
                  cases hc : fi.fr with
                  | nil => exact absurd hc e
                  | cons y r => rw [cat, List.length_append]; have := List.length_pos_iff.2 (enc_ne y.1 y.2); omega)
                clear hA hgt hfb hlb htl htf hpe hdr hpp hAB
                go_wp2_with fail
                refine HNB.out.mono ?_
                rintro e wn ⟨rfl, hbn⟩
                have HL3n := Lib.hid (HL3.out.below hbn)
                clear hbn HNB HL3 hsl u3 u4 u2
                go_wp2_with fail
                go_quiet (fail)
                generalize hwq : wn.drewN _ = wq
                have HL3 := Lib.hid (HL3n.out.below (w' := wq) (by rw [← hwq]; exact below_drewN (Below.refl _ _) _))
                clear hwq HL3n
                by_cases hfr : fi.fr = []
                case pos =>
                  have HFRN := Lib.hid hfr
                  have HA0 : Hid (A = 0) := Lib.hid (HEQ2.out hfr)
                  have HBO : Hid (¬ (j = 0 ∧ t = 0)) := Lib.hid (by
                    rcases HCH.out with ⟨rs, e⟩ | ⟨_, _, e⟩
                    · rw [HFRN.out] at e; cases e
                    · exact fun h => e h.1)
                  clear hfr
                  obtain ⟨Yd, vs2, hYd, hwa2, hhd2⟩ := HL3.out.mem
                  have HYD := Lib.hid hYd
                  have HWD := Lib.hid hwa2
                  have HKD := Lib.hid HL3.out.kp
                  have hrec : recs (files.take j) ++ (fi.fr.take t).tail.map Prod.snd = recs (files.take (j + 1)) := by
                    rw [recs_next HFJ.out.1, HTF.out, List.take_length]; rfl
                  rw [hrec, if_neg HBO.out] at hhd2
                  have HHE := Lib.hid hhd2
                  clear hYd hwa2 hhd2 hrec
                  have u1 : ¬ (0 : Int) < (A : Int) := by have := HA0.out; omega
                  have u2 : (A : Int) < (BL : Int) := by have := HAB.out; omega
                  have qz0 := HWD.out.blk.cell 0 rfl
                  have HFE : Hid (fileW nm X fi = fst1 X (cut X.st y14 (A : Int))) := Lib.hid (by unfold fileW; rw [if_neg HPE2.out, if_pos HFRN.out, ← HAF.out, HY14.out]; rfl)
                  have HCU := Lib.hid (cut_py q m X.st y14 (A : Int) wq HWD.out.pa (by have := fnm_len nm fi.n HOK.out.n; have := HN.out; rw [HY14.out]; omega))
                  go_wp2_with fail
                  refine HCU.out.mono ?_
                  rintro e w2 ⟨rfl, hp2, hk2⟩
                  have hpl := HWD.out.plate (x' := { X with st := (cut X.st y14 (A : Int)).2 }) hp2 hk2 rfl
                  have HW2 := Lib.hid hpl.1
                  have HP2 := Lib.hid hpl.2
                  have HW3 := Lib.hid (hpl.1.alloc (.cells #[.int .i64 (((cut X.st y14 (A : Int)).1 : Nat) : Int)] 24))
                  have HP3 := Lib.hid (hpl.2.alloc (.cells #[.int .i64 (((cut X.st y14 (A : Int)).1 : Nat) : Int)] 24))
                  have HR3 := Lib.hid (rd_one w2 (.int .i64 (((cut X.st y14 (A : Int)).1 : Nat) : Int)) 24)
                  clear hp2 hk2 hpl HCU qz0
                  go_wp2_with fail
                  refine (first_any g q m nm most _ _ _ _ HW3.out HR3.out (by have := cut_le X.st y14 (A : Int); omega)).mono ?_
                  rintro e w4 ⟨rfl, hw4, hk4⟩
                  obtain ⟨r, hr⟩ : ∃ r, r = fileW nm X fi := ⟨_, rfl⟩
                  have e1 : (cut X.st y14 (A : Int)).1 = r.1 := by rw [hr, HFE.out]; rfl
                  have HW4 : Hid (WA Yd w4 g q m nm most r.2) := Lib.hid (by rw [hr, HFE.out]; exact hw4)
                  have HP4 : Hid (Kp Yd wq w4) := Lib.hid (HP3.out.trans hk4)
                  rw [e1]
                  rw [← hr] at HNEXT HNX HFE
                  have HRR := Lib.hid hr
                  clear hw4 hk4 e1 hr HW2 HW3 HP2 HP3 HR3
                  by_cases h0 : r.1 = 0
                  case pos =>
                    have HEE := Lib.hid (HNEXT.out w4 u6 u7 h0 ⟨Yd, vs2, HYD.out, HW4.out, HHE.out.keep fun k hk => HP4.out.block (HWD.out.ys k hk) hk⟩ (HKD.out.trans (HP4.out.mono HYD.out)))
                    rw [h0]
                    go_wp2_with fail
                    go_roundw
                    case rel => exact ⟨j + 1, by omega, by have := HI.out; go_num, by rw [goodJ_next HFJ.out.1, Bool.eq_false_iff.2 (show fi.p.isEmpty ≠ true by intro e; exact HPE2.out (List.isEmpty_iff.1 e)), Bool.and_false], HEE.out⟩
                    case measure => simp [intOf]; omega
                  case neg =>
                    have HNN := Lib.hid (HNX.out.2 h0)
                    have HH0' := Lib.hid h0
                    obtain ⟨c, hc⟩ : ∃ c, c = r.1 := ⟨_, rfl⟩
                    rw [← hc]
                    have HC := Lib.hid hc
                    have t5 : ((c : Int) != 0) = true := by rw [bne_iff_ne]; omega
                    have t6 : ((c : Int) == 0) = false := by rw [beq_eq_false_iff_ne]; omega
                    have t7 : ¬ (c : Int) = 0 := by omega
                    clear hc h0
                    go_wp2_with fail
                    go_ret3
                    have h1 := HS2.out.1 (by rw [HNN.out]; exact HH0'.out)
                    rw [HNN.out] at h1
                    exact ⟨r, .slice none 0 0, .slice none 0 0, [], Yd, h1.1.symm, h1.2.symm, fun e => absurd (h1.1.symm.trans e) HH0'.out, by rw [← HC.out]; rfl, HYD.out, HW4.out, HKD.out.trans (HP4.out.mono HYD.out), fun e => absurd e HH0'.out⟩
                case neg =>
                  have HFRN := Lib.hid hfr
                  have HA0 : Hid (0 < A) := Lib.hid (HEQ3.out hfr)
                  have HBO : Hid (¬ (j = 0 ∧ t = 0)) := Lib.hid (fun h => HFRN.out (HEQ.out h.2))
                  clear hfr
                  obtain ⟨Yd, vs2, hYd, hwa2, hhd2⟩ := HL3.out.mem
                  have HYD := Lib.hid hYd
                  have HWD := Lib.hid hwa2
                  have HKD := Lib.hid HL3.out.kp
                  have hrec : recs (files.take j) ++ (fi.fr.take t).tail.map Prod.snd = recs (files.take (j + 1)) := by
                    rw [recs_next HFJ.out.1, HTF.out, List.take_length]; rfl
                  rw [hrec, if_neg HBO.out] at hhd2
                  have HHE := Lib.hid hhd2
                  clear hYd hwa2 hhd2 hrec
                  have hrd5 := rd_keep HRD.out (fun b hb => HKD.out.block (HW.out.ys b (HLY.out b hb)) (HLY.out b hb))
                  obtain ⟨nb', no', nc', e5, hn5, hc5⟩ := hrd5.pos (by omega)
                  cases e5
                  have z5 : wq.cell? ⟨nb, no + I, none⟩ = some (.int .i64 (fi.n : Int)) := hc5 I (iv fi.n) (by rw [List.getElem?_map, HFD.out]; rfl)
                  have q3 := HWD.out.blk.cell 3 rfl
                  have q4 := HWD.out.blk.cell 4 rfl
                  have f3 := HWD.out.blk.frozen 3
                  have f4 := HWD.out.blk.frozen 4
                  have HSE : Hid (WA Yd ((wq.setCell ⟨g, 3, none⟩ (.int .i64 (fi.n : Int))).setCell ⟨g, 4, none⟩ (.int .i64 (A : Int))) g q m nm most (setW X fi.n A) ∧ Kp Yd wq ((wq.setCell ⟨g, 3, none⟩ (.int .i64 (fi.n : Int))).setCell ⟨g, 4, none⟩ (.int .i64 (A : Int)))) := Lib.hid (by
                    refine HWD.out.set (((Out.refl (fun k => k = g) _).set ⟨g, 3, none⟩ _ rfl).set ⟨g, 4, none⟩ _ rfl) ?_ rfl
                    exact (HWD.out.blk.set 3 (.int .i64 (fi.n : Int))).set 4 (.int .i64 (A : Int)))
                  have u1 : (0 : Int) < (A : Int) := by have := HA0.out; omega
                  clear hrd5 hc5 hn5
                  have u2 : (A : Int) < (BL : Int) := by have := HAB.out; omega
                  have qz0 := HWD.out.blk.cell 0 rfl
                  obtain ⟨wz, hwz⟩ : ∃ wz, wz = (wq.setCell ⟨g, 3, none⟩ (.int .i64 (fi.n : Int))).setCell ⟨g, 4, none⟩ (.int .i64 (A : Int)) := ⟨_, rfl⟩
                  rw [← hwz] at HSE
                  have HWZ := Lib.hid HSE.out.1
                  have HKZ : Hid (Kp Y w wz) := Lib.hid (HKD.out.trans (HSE.out.2.mono HYD.out))
                  have HHZ := Lib.hid (HHE.out.keep fun k hk => HSE.out.2.block (HWD.out.ys k hk) hk)
                  have HFE : Hid (fileW nm X fi = fst1 (setW X fi.n A) (cut X.st y14 (A : Int))) := Lib.hid (by unfold fileW; rw [if_neg HPE2.out, if_neg HFRN.out, ← HAF.out, HY14.out]; rfl)
                  have HCU := Lib.hid (cut_py q m X.st y14 (A : Int) wz HWZ.out.pa (by have := fnm_len nm fi.n HOK.out.n; have := HN.out; rw [HY14.out]; omega))
                  go_wp2_with fail
                  rw [← hwz]
                  clear hwz q3 q4 f3 f4 z5 HSE
                  refine HCU.out.mono ?_
                  rintro e w2 ⟨rfl, hp2, hk2⟩
                  have hpl := HWZ.out.plate (x' := { (setW X fi.n A) with st := (cut X.st y14 (A : Int)).2 }) hp2 hk2 rfl
                  have HW2 := Lib.hid hpl.1
                  have HP2 := Lib.hid hpl.2
                  have HW3 := Lib.hid (hpl.1.alloc (.cells #[.int .i64 (((cut X.st y14 (A : Int)).1 : Nat) : Int)] 24))
                  have HP3 := Lib.hid (hpl.2.alloc (.cells #[.int .i64 (((cut X.st y14 (A : Int)).1 : Nat) : Int)] 24))
                  have HR3 := Lib.hid (rd_one w2 (.int .i64 (((cut X.st y14 (A : Int)).1 : Nat) : Int)) 24)
                  clear hp2 hk2 hpl HCU qz0
                  go_wp2_with fail
                  refine (first_any g q m nm most _ _ _ _ HW3.out HR3.out (by have := cut_le X.st y14 (A : Int); omega)).mono ?_
                  rintro e w4 ⟨rfl, hw4, hk4⟩
                  obtain ⟨r, hr⟩ : ∃ r, r = fileW nm X fi := ⟨_, rfl⟩
                  have e1 : (cut X.st y14 (A : Int)).1 = r.1 := by rw [hr, HFE.out]; rfl
                  have HW4 : Hid (WA Yd w4 g q m nm most r.2) := Lib.hid (by rw [hr, HFE.out]; exact hw4)
                  have HP4 : Hid (Kp Yd wz w4) := Lib.hid (HP3.out.trans hk4)
                  rw [e1]
                  rw [← hr] at HNEXT HNX HFE
                  have HRR := Lib.hid hr
                  clear hw4 hk4 e1 hr HW2 HW3 HP2 HP3 HR3
                  by_cases h0 : r.1 = 0
                  case pos =>
                    have HEE := Lib.hid (HNEXT.out w4 u6 u7 h0 ⟨Yd, vs2, HYD.out, HW4.out, HHZ.out.keep fun k hk => HP4.out.block (HWZ.out.ys k hk) hk⟩ (HKZ.out.trans (HP4.out.mono HYD.out)))
                    rw [h0]
                    go_wp2_with fail
                    go_roundw
                    case rel => exact ⟨j + 1, by omega, by have := HI.out; go_num, by rw [goodJ_next HFJ.out.1, Bool.eq_false_iff.2 (show fi.p.isEmpty ≠ true by intro e; exact HPE2.out (List.isEmpty_iff.1 e)), Bool.and_false], HEE.out⟩
                    case measure => simp [intOf]; omega
                  case neg =>
                    have HNN := Lib.hid (HNX.out.2 h0)
                    have HH0' := Lib.hid h0
                    obtain ⟨c, hc⟩ : ∃ c, c = r.1 := ⟨_, rfl⟩
                    rw [← hc]
                    have HC := Lib.hid hc
                    have t5 : ((c : Int) != 0) = true := by rw [bne_iff_ne]; omega
                    have t6 : ((c : Int) == 0) = false := by rw [beq_eq_false_iff_ne]; omega
                    have t7 : ¬ (c : Int) = 0 := by omega
                    clear hc h0
                    go_wp2_with fail
                    go_ret3
                    have h1 := HS2.out.1 (by rw [HNN.out]; exact HH0'.out)
                    rw [HNN.out] at h1
                    exact ⟨r, .slice none 0 0, .slice none 0 0, [], Yd, h1.1.symm, h1.2.symm, fun e => absurd (h1.1.symm.trans e) HH0'.out, by rw [← HC.out]; rfl, HYD.out, HW4.out, HKZ.out.trans (HP4.out.mono HYD.out), fun e => absurd e HH0'.out⟩
            case pos =>
              obtain ⟨xf, hxf⟩ : ∃ xf, fi.fr[t]? = some xf := ⟨_, List.getElem?_eq_getElem htl⟩
              have hxj := List.getElem?_eq_some_iff.1 hxf
              have hdr : fi.fr.drop t = xf :: fi.fr.drop (t + 1) := by rw [List.drop_eq_getElem_cons hxj.1, hxj.2]
              have htk : fi.fr.take (t + 1) = fi.fr.take t ++ [xf] := by rw [List.take_succ_eq_append_getElem hxj.1, hxj.2]
              have hokx := HOK.out.fr xf (List.mem_of_getElem? hxf)
              obtain ⟨N, hN⟩ : ∃ N, N = (enc xf.1 xf.2).length := ⟨_, rfl⟩
              have hN0 : 0 < N := by rw [hN]; exact List.length_pos_iff.2 (enc_ne _ _)
              have hAN : A + N = (cat (fi.fr.take (t + 1))).length := by rw [htk, cat_app, List.length_append, cat_one, hA, hN]
              have hANB : A + N ≤ BL := by rw [hlb, hdr, cat, List.length_append, List.length_append]; omega
              have hAB : A < BL := by omega
              have hsl := by_from bb off BL vc A (by omega) (by omega)
              have HNB := Lib.hid (next_at (xf :: fi.fr.drop (t + 1)) fi.p (.slice (some ⟨bb, off + A, none⟩) (BL - A) (vc - A)) wr (fun y hy => HOK.out.fr y (List.mem_of_mem_drop (by rw [hdr]; exact hy))) HOK.out.p (by
                have h := HL3.out.rd
                rw [← HBL.out, hfb] at h
                have h2 := rd_from h (by rw [← hA]; omega) (by rw [← hA]; omega)
                rw [← hA] at h2
                rw [← hdr, show (cat (fi.fr.drop t) ++ fi.p).length = BL - A by omega]
                exact h2) (by rw [← hdr]; omega))
              simp only [nxk, nxn] at HNB
              rw [← hN] at HNB
              have HXF := Lib.hid (And.intro hxf (And.intro htk (And.intro hAN hANB)))
              have HNN0 := Lib.hid (And.intro hN0 hN)
              have u2 : (A : Int) < (BL : Int) := by omega
              have u3 : (A : Int) ≤ (BL : Int) := by omega
              have u4 : (0 : Int) ≤ (A : Int) := by omega
              have n0 : ((N : Int) == 0) = false := by rw [beq_eq_false_iff_ne]; omega
              have n1 : ¬ (N : Int) = 0 := by omega
              have aw : IntKind.i64.wrap ((A : Int) + (N : Int)) = ((A + N : Nat) : Int) := by rw [IntWalk.i64_in _ (by omega)]; omega
              obtain ⟨A2, hA2⟩ : ∃ A2, A2 = A + N := ⟨_, rfl⟩
              rw [← hA2] at aw
              have HA2 := Lib.hid hA2
              have hA2B : A2 ≤ BL := by omega
              have hA2A : A < A2 := by omega
              have HAT : Hid ((t = 0 → A = 0) ∧ (t ≠ 0 → 0 < A)) := Lib.hid ⟨fun e => by rw [hA, e, List.take_zero]; rfl, fun e => by
                rw [hA]
                have h1 := cat_len (fi.fr.take t)
                rw [List.length_take] at h1
                omega⟩
              clear hA hgt hfb hlb hxj hdr htk hN hN0 hAN hANB hAB hA2 hxf hokx
              rcases Nat.eq_zero_or_pos t with ht0 | ht0
              case inl =>
                have hA0 := HAT.out.1 ht0
                have a0 : ((A : Int) == 0) = true := by rw [hA0]; rfl
                have a1 : (A : Int) = 0 := by rw [hA0]; rfl
                have a2 : ¬ (0 : Int) < (A : Int) := by omega
                have a3 : decide ((0 : Int) < (A : Int)) = false := by rw [hA0]; rfl
                have a4 : decide (0 < A) = false := by rw [hA0]; rfl
                have HA1 := Lib.hid a1
                have hx0 : xf = hdr j base := by
                  rcases HCH.out with ⟨rs, e⟩ | ⟨e, _⟩
                  · have := HXF.out.1; rw [e, ht0] at this; cases this; rfl
                  · have := HXF.out.1; rw [e] at this; simp at this
                have HREC : Hid ((fi.fr.take (t + 1)).tail.map Prod.snd = (fi.fr.take t).tail.map Prod.snd) := Lib.hid (by rw [HXF.out.2.1, ht0, List.take_zero]; rfl)
                by_cases hj0 : j = 0
                case pos =>
                  have hx1 : xf = (0, base) := by rw [hx0, hj0]; rfl
                  subst hx1
                  have i0 : ((I : Int) == (O : Int)) = true := by have := HI.out; rw [beq_iff_eq]; omega
                  have i1 : ¬ (O : Int) < (I : Int) := by have := HI.out; omega
                  have i2 : decide ((O : Int) < (I : Int)) = false := by rw [decide_eq_false_iff_not]; exact i1
                  have i3 : decide (O < I) = false := by rw [decide_eq_false_iff_not]; have := HI.out; omega
                  have HJT : Hid (j = 0 ∧ t = 0) := Lib.hid ⟨hj0, ht0⟩
                  clear ht0 hA0 hx0 hj0 a1 HA1
                  go_wp2_with fail
                  refine HNB.out.mono ?_
                  rintro e wn ⟨u, rfl, hbn, hcv⟩
                  have HB := Lib.hid (And.intro hbn (hcv _ _ rfl))
                  clear hbn hcv HNB hsl u3 u4 u2
                  go_wp2_with fail
                  go_quiet (fail)
                  generalize hwq : wn.drewN _ = wq
                  have HL3q : Hid (L3 Y w wq w.heap.size g q m nm most X (.slice (some ⟨bb, off, none⟩) BL vc) fi.b (recs (files.take j) ++ (fi.fr.take t).tail.map Prod.snd) (some base) u u7 ∧ wc.heap.size ≤ wq.heap.size) := Lib.hid (by
                    have hbq : Below wr.heap.size wr wq := by rw [← hwq]; exact below_drewN HB.out.1 _
                    have hcq : Cv wq wr.heap.size u base := by rw [← hwq]; exact HB.out.2.keep fun k hk => rfl
                    exact ⟨HL3.out.base hbq hcq (Nat.le_trans HL2.out.kp.size (Nat.le_trans HBC.out HSZ3.out)), Nat.le_trans HSZ3.out hbq.size⟩)
                  clear hwq HB HL3
                  go_wp2_with fail
                  go_roundw
                  case rel =>
                    refine ⟨t + 1, htl, ?_, rfl, fun e => (by cases e), HL3q.out.2, ?_⟩
                    · rw [← HXF.out.2.2.1, ← HA2.out]
                    · rw [HREC.out, if_neg (by omega)]; exact HL3q.out.1
                  case measure => simp [intOf]; omega
                case neg =>
                  have hx1 : xf = (1, []) := by rw [hx0]; unfold hdr; rw [if_neg hj0]
                  subst hx1
                  have i0 : ((I : Int) == (O : Int)) = false := by have := HI.out; rw [beq_eq_false_iff_ne]; omega
                  have i1 : (O : Int) < (I : Int) := by have := HI.out; omega
                  have i2 : decide ((O : Int) < (I : Int)) = true := by rw [decide_eq_true_iff]; exact i1
                  have i3 : decide (O < I) = true := by rw [decide_eq_true_iff]; have := HI.out; omega
                  have i4 : ¬ (I : Int) = (O : Int) := by omega
                  obtain ⟨N1, hN1, hpv⟩ := HPV.out hj0 (fun e => by have := HXF.out.1; rw [e] at this; simp at this)
                  have w1 : IntKind.i64.wrap ((N1 : Int) + 1) = (fi.n : Int) := by have := HOK.out.n; rw [IntWalk.i64_in _ (by omega)]; omega
                  have w2 : IntKind.i64.wrap ((I : Int) - 1) = ((I - 1 : Nat) : Int) := by rw [IntWalk.i64_in _ (by omega)]; omega
                  obtain ⟨I1, hI1⟩ : ∃ I1, I1 = I - 1 := ⟨_, rfl⟩
                  rw [← hI1] at w2 hpv
                  have w3 : (I1 : Int) < (L : Int) := by have := HLM.out; omega
                  have HPC := Lib.hid hpv
                  have HJT : Hid (¬ (j = 0 ∧ t = 0) ∧ ¬ (j = 0 ∧ t + 1 = 0)) := Lib.hid ⟨fun h => hj0 h.1, fun h => hj0 h.1⟩
                  have hcz : ∀ W, Kp Y w W → W.cell? ⟨nb, no + I, none⟩ = some (.int .i64 (fi.n : Int)) ∧ W.cell? ⟨nb, no + I1, none⟩ = some (.int .i64 (N1 : Int)) := fun W hW => by
                    have hrd5 := rd_keep HRD.out (fun b hb => hW.block (HW.out.ys b (HLY.out b hb)) (HLY.out b hb))
                    have hrd6 := rd_keep HRD.out (fun b hb => HL2.out.kp.block (HW.out.ys b (HLY.out b hb)) (HLY.out b hb))
                    obtain ⟨nb', no', nc', e5, hn5, hc5⟩ := hrd5.pos (by omega)
                    obtain ⟨nb6, no6, nc6, e6, hn6, hc6⟩ := hrd6.pos (by omega)
                    cases e5
                    cases e6
                    refine ⟨hc5 I (iv fi.n) (by rw [List.getElem?_map, HFD.out]; rfl), ?_⟩
                    obtain ⟨fz, hfz⟩ : ∃ fz, (old ++ files)[I1]? = some fz := ⟨_, List.getElem?_eq_getElem (by have := HLO.out.1; have := HLM.out; omega)⟩
                    have h7 := hc6 I1 (iv fz.n) (by rw [List.getElem?_map, hfz]; rfl)
                    rw [HPC.out] at h7
                    cases h7
                    exact hc5 I1 (iv fz.n) (by rw [List.getElem?_map, hfz]; rfl)
                  have HCZ := Lib.hid hcz
                  clear ht0 hA0 hx0 hj0 hpv hI1 hN1 hcz a1 HA1
                  go_wp2_with fail
                  refine HNB.out.mono ?_
                  rintro e wn ⟨u, rfl, hbn, hcv⟩
                  have HB := Lib.hid hbn
                  obtain ⟨y1, y2⟩ := HCZ.out wn (HL3.out.kp.trans (Kp.of_below hbn))
                  clear hbn hcv HNB hsl u3 u4 u2
                  go_wp2_with fail
                  go_quiet (fail)
                  generalize hwq : wn.drewN _ = wq
                  have HL3q : Hid (L3 Y w wq w.heap.size g q m nm most X (.slice (some ⟨bb, off, none⟩) BL vc) fi.b (recs (files.take j) ++ (fi.fr.take t).tail.map Prod.snd) (some base) u6 u7 ∧ wc.heap.size ≤ wq.heap.size) := Lib.hid (by
                    have hbq : Below wr.heap.size wr wq := by rw [← hwq]; exact below_drewN HB.out _
                    have h := HL3.out.below hbq
                    rw [if_neg HJT.out.1] at h
                    exact ⟨h, Nat.le_trans HSZ3.out hbq.size⟩)
                  clear hwq HB HL3 y1 y2
                  go_wp2_with fail
                  go_roundw
                  case rel =>
                    refine ⟨t + 1, htl, ?_, rfl, fun e => (by cases e), HL3q.out.2, ?_⟩
                    · rw [← HXF.out.2.2.1, ← HA2.out]
                    · rw [HREC.out, if_neg HJT.out.2]; exact HL3q.out.1
                  case measure => simp [intOf]; omega
              case inr =>
                have hA0 := HAT.out.2 (by omega)
                have a0 : ((A : Int) == 0) = false := by rw [beq_eq_false_iff_ne]; omega
                have a1 : ¬ (A : Int) = 0 := by omega
                have a2 : (0 : Int) < (A : Int) := by omega
                have a3 : decide ((0 : Int) < (A : Int)) = true := by rw [decide_eq_true_iff]; exact a2
                have a4 : decide (0 < A) = true := by rw [decide_eq_true_iff]; exact hA0
                obtain ⟨rc0, hx1⟩ : ∃ r, xf = (2, r) := by
                  rcases HCH.out with ⟨rs, e⟩ | ⟨e, _⟩
                  · have h1 := HXF.out.1
                    rw [e] at h1
                    obtain ⟨t', rfl⟩ : ∃ t', t = t' + 1 := ⟨t - 1, by omega⟩
                    rw [List.getElem?_cons_succ, List.getElem?_map] at h1
                    cases hr : rs[t']? with
                    | none => rw [hr] at h1; cases h1
                    | some r => rw [hr] at h1; cases h1; exact ⟨r, rfl⟩
                  · have := HXF.out.1; rw [e] at this; simp at this
                subst hx1
                have HREC : Hid ((fi.fr.take (t + 1)).tail.map Prod.snd = (fi.fr.take t).tail.map Prod.snd ++ [rc0]) := Lib.hid (by
                  rw [HXF.out.2.1, List.tail_append_of_ne_nil (by intro e; have := congrArg List.length e; rw [List.length_take, List.length_nil] at this; omega), List.map_append]; rfl)
                have HJT : Hid (¬ (j = 0 ∧ t = 0) ∧ ¬ (j = 0 ∧ t + 1 = 0)) := Lib.hid ⟨fun h => by omega, fun h => by omega⟩
                obtain ⟨RR, hRR⟩ : ∃ RR, RR = recs (files.take j) ++ (fi.fr.take t).tail.map Prod.snd := ⟨_, rfl⟩
                have hRL : RR.length ≤ 30000000000 := by
                  have h1 := recs_len (K := 268435456) (files.take j) (fun e he => (HRL.out e (List.mem_of_mem_take he)).1)
                  have h2 := (HRL.out fi (List.mem_of_getElem? HFJ.out.1)).2
                  rw [List.length_take] at h1
                  rw [hRR, List.length_append, List.length_map, List.length_tail, List.length_take]
                  have h3 : min j files.length * 268435456 ≤ 100 * 268435456 := Nat.mul_le_mul_right _ (by have := HLM.out; omega)
                  omega
                have hl3' := HL3.out
                rw [← hRR, if_neg HJT.out.1] at hl3'
                obtain ⟨Yd, vs2, hYd, hwa2, hhd2⟩ := hl3'.mem
                have HROW := Lib.hid hhd2.row
                have HL3' := Lib.hid hl3'
                have HRRE := Lib.hid (And.intro hRR hRL)
                obtain ⟨i0, hi, hz0, hz1, hz2⟩ := info_parts bys_row
                have HHI := Lib.hid (And.intro hi (And.intro hz0 (And.intro hz1 hz2)))
                have HB0 : Hid (w.heap.size ≤ wr.heap.size) := Lib.hid (Nat.le_trans HL2.out.kp.size (Nat.le_trans HBC.out HSZ3.out))
                obtain ⟨ra7, rc7, e7⟩ := (Rd.of_own hhd2.row).slice
                subst e7
                obtain ⟨RN, hRN⟩ : ∃ RN, RN = RR.length := ⟨_, rfl⟩
                have HRN := Lib.hid hRN
                rw [← hRN] at HROW ⊢
                clear ht0 hA0 hRR hRL hl3' hYd hwa2 hhd2 HL3 hi hz0 hz1 hz2 hRN
                go_wp2_with fail
                refine HNB.out.mono ?_
                rintro e wn ⟨u, rfl, hbn, hcv⟩
                have HB := Lib.hid (And.intro hbn (hcv _ _ rfl))
                clear hbn hcv HNB hsl u3 u4 u2
                go_wp2_with fail
                go_quiet (fail)
                generalize hwq : wn.drewN _ = wq
                have HBQ : Hid (Below wr.heap.size wr wq ∧ Cv wq wr.heap.size u rc0) := Lib.hid (by
                  rw [← hwq]; exact ⟨below_drewN HB.out.1 _, HB.out.2.keep fun k hk => rfl⟩)
                obtain ⟨ug, ucap, eu⟩ : ∃ ug ucap, u = .slice (some ⟨ug, 0, none⟩) rc0.length ucap := by
                  obtain ⟨g', cap', cur', e', _⟩ := HBQ.out.2
                  exact ⟨g', cap', e'⟩
                subst eu
                have HRW2 := Lib.hid (own_below HROW.out (HBQ.out.1.alloc HBQ.out.1.size (.cells #[.slice (some ⟨ug, 0, none⟩) rc0.length ucap] 32)))
                have HR1 := Lib.hid (rd_one wq (.slice (some ⟨ug, 0, none⟩) rc0.length ucap) 32)
                have HU1 : Hid ((Value.slice (some ⟨ug, 0, none⟩) rc0.length ucap).oneCell' = true) := Lib.hid rfl
                clear hwq HB
                go_wp2_with (at_builtin; go_loud (refine wpList_app rfl (.tmp 134) (.tmp 136) 38 rfl 32 w.heap.size i0 (.slice none 0 0) 1 24 Tryz.underlying38 HHI.out.1 HHI.out.2.1 HHI.out.2.2.1 HHI.out.2.2.2 rfl (by decide) _ RN _ rfl HRW2.out _ 1 _ rfl HR1.out (by intro z hz; rw [List.mem_singleton] at hz; subst hz; exact HU1.out) (by have := HRRE.out.2; have := HRN.out; unfold maxLen; omega) (by have := HRRE.out.2; have := HRN.out; omega) (by have := HBQ.out.1.size; have := HB0.out; rw [World.size_alloc]; omega) ?_))
                rintro v' w5 ho hg hv'
                have HL3q : Hid (L3 Y w w5 w.heap.size g q m nm most X (.slice (some ⟨bb, off, none⟩) BL vc) fi.b (RR ++ [rc0]) (some base) u6 v' ∧ wc.heap.size ≤ w5.heap.size) := Lib.hid (by
                  have hgs := hg.size
                  have hbs := HBQ.out.1.size
                  have hs3 := HSZ3.out
                  rw [World.size_alloc] at hgs
                  refine ⟨?_, by omega⟩
                  rw [HRN.out] at ho hg hv'
                  have hv2 : v'.ownBlock = (Value.slice ra7 RR.length rc7).ownBlock ∨ v'.ownBlock = some (wq.alloc (.cells #[.slice (some ⟨ug, 0, none⟩) rc0.length ucap] 32)).heap.size := by rw [World.size_alloc]; exact hv'
                  have hr0 := HROW.out
                  rw [HRN.out] at hr0
                  exact HL3'.out.add HBQ.out.1 HBQ.out.2 HB0.out (fun k hk => HW.out.ys k hk) ((Below.refl _ _).alloc (Nat.le_refl _) _) hr0 ho hg hv2)
                clear ho hg hv' HRW2 HR1 HU1 HBQ HROW
                go_wp2_with fail
                go_roundw
                case rel =>
                  refine ⟨t + 1, htl, ?_, rfl, fun e => (by cases e), HL3q.out.2, ?_⟩
                  · rw [← HXF.out.2.2.1, ← HA2.out]
                  · rw [HREC.out, ← List.append_assoc, ← HRRE.out.1, if_neg HJT.out.2]; exact HL3q.out.1
                case measure => simp [intOf]; omega
    | succ k =>
      have e0 : ((k + 1 : Nat) : Int) - 1 = (k : Int) := by omega
      rw [e0]
      have t1 : (0 : Int) ≤ (k : Int) := by omega
      by_cases hkO : k < O
      case neg =>
        have t2 : ¬ (k : Int) < (O : Int) := by omega
        have HE : Hid (O - (k + 1) = O - k) := Lib.hid (by omega)
        go_wp2_with fail
        go_roundw
        case rel => exact ⟨k, by omega, by go_num, rfl, rfl, by rw [← HE.out]; exact HZ.out, by rw [← HE.out]; exact HWR.out, HKR.out⟩
        case measure => simp [intOf] <;> omega
      case pos =>
        have t2 : (k : Int) < (O : Int) := by omega
        obtain ⟨fo, hfo⟩ : ∃ fo, old[k]? = some fo := ⟨_, List.getElem?_eq_getElem (by have := HLO.out.2; omega)⟩
        have hfd : (old ++ (pre ++ f :: jk))[k]? = some fo := by rw [List.getElem?_append_left (by have := HLO.out.2; omega)]; exact hfo
        have hfn := (HHH.out.ok fo (List.mem_of_getElem? hfd)).n
        have hrd2 := rd_keep HRD.out (fun b hb => HKR.out.block (HW.out.ys b (HLY.out b hb)) (HLY.out b hb))
        obtain ⟨nb, no, ncap, e1, hncap, hnc⟩ := hrd2.pos (by omega)
        cases e1
        have z1 : wr.cell? ⟨nb, no + k, none⟩ = some (.int .i64 (fo.n : Int)) := hnc k (iv fo.n) (by rw [List.getElem?_map, hfd]; rfl)
        have HNX := Lib.hid (oldC_next (x := x) (nm := nm) (t := O - (k + 1)) hfo (by have := HLO.out.2; omega) HZ.out)
        have HDR := Lib.hid (drop_any g q m nm most fo.n _ wr HWR.out HN.out hfn)
        have HE : Hid (O - (k + 1) + 1 = O - k) := Lib.hid (by omega)
        obtain ⟨y, hy⟩ : ∃ y, y = oldC nm x old (O - (k + 1)) := ⟨_, rfl⟩
        rw [← hy] at HNX HDR
        clear hrd2 hnc hfo hfd hy HZ HWR
        have hkl : k < L := by omega
        go_wp2_with fail
        refine HDR.out.mono ?_
        rintro e w7 ⟨rfl, hw7, hk7⟩
        have HW7 := Lib.hid hw7
        have HK7 := Lib.hid hk7
        clear hw7 hk7 HDR
        obtain ⟨c, hc⟩ : ∃ c, c = (cutW nm y.2 fo.n 0).1 := ⟨_, rfl⟩
        have HC := Lib.hid hc
        rw [← hc]
        clear hc
        by_cases h0 : c = 0
        · subst h0
          have HG := Lib.hid (HNX.out.1 HC.out.symm)
          rw [HE.out] at HG
          go_wp2_with fail
          go_roundw
          case rel => exact ⟨k, by omega, by go_num, rfl, rfl, HG.out.1, by rw [HG.out.2]; exact HW7.out, HKR.out.trans HK7.out⟩
          case measure => simp [intOf] <;> omega
        · have t5 : ((c : Int) != 0) = true := by rw [bne_iff_ne]; omega
          have t6 : ((c : Int) == 0) = false := by rw [beq_eq_false_iff_ne]; omega
          have t7 : ¬ (c : Int) = 0 := by omega
          have HEND : Hid (repW nm x old pre f jk = cutW nm y.2 fo.n 0) := Lib.hid (by
            have h1 := HNX.out.2 (by rw [← HC.out]; exact h0)
            rw [← h1]
            exact HST.out.1 (by rw [h1, ← HC.out]; exact h0))
          have HCZ : Hid (¬ c = 0) := Lib.hid h0
          clear h0
          go_wp2_with fail
          go_ret3
          refine ⟨cutW nm y.2 fo.n 0, .slice none 0 0, .slice none 0 0, [], Y, ?_, ?_, fun _ => HEND.out.symm, ?_, fun k h => h, HW7.out, HKR.out.trans HK7.out, fun h => absurd (HC.out.trans h) HCZ.out⟩
          · rw [HEND.out]
          · rw [HEND.out]
          · rw [← HC.out]; rfl
end Go.Proofs.YthofbblgoamipaaGreatDoor.Wa
