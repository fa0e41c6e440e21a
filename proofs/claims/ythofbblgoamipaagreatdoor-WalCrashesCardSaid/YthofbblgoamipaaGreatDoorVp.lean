/-
  Chapter 12, plain: what a crash leaves of a log's files, and what an opening makes of it.
-/
import Derived.Test.YthofbblgoamipaaGreatDoorVo
namespace Go.Proofs.YthofbblgoamipaaGreatDoor.Wa
open Go.RowKit Pt
set_option linter.unusedVariables false
set_option linter.unusedSimpArgs false

/-- all is synced -/
def AllS (fs : List Fl) : Prop := ∀ g ∈ fs, g.s = g.b.length
theorem allS_lay {fs : List Fl} (ha : Asc fs) (h : AllS fs) (x b : By) (s : Nat) (hs : s = b.length) : AllS (lay ⟨x, b, s⟩ fs) := fun g hg => by
  rcases mem_lay ha hg with ⟨rfl, _⟩ | ⟨h1, _⟩
  · exact hs
  · exact h g h1
/-- a log's disk, to be opened -/
structure Dk (nm : By) (fs : List Fl) (base : By) (R : List By) (N a : Nat) (old pre : List Fi) (f : Fi) (jk : List Fi) : Prop where
  hh : Holds nm fs (old ++ (pre ++ (f :: jk)))
  run : Run a base (pre ++ [f])
  sy : ∀ g ∈ pre, g.p = [] ∧ g.s = g.b.length
  jf : ∀ g ∈ jk, g.fr = []
  rc : recs (pre ++ [f]) = R
  nN : ∀ g ∈ old ++ (pre ++ (f :: jk)), g.n ≤ N
def Disk (nm : By) (fs : List Fl) (base : By) (R : List By) (N : Nat) : Prop := ∃ a old pre f jk, Dk nm fs base R N a old pre f jk
theorem ld_disk {nm : By} {fs : List Fl} {base : By} {R : List By} {k N : Nat} (h : LD nm fs base R k N) : Disk nm fs base R N := by
  obtain ⟨a, pre, f, i, h⟩ := h
  have hlt : ∀ g ∈ pre ++ [f], g.n ≤ N := fun g hg => by
    rcases List.mem_append.1 hg with hg | hg
    · have := (List.pairwise_append.1 h.hh.asc).2.2 g hg f List.mem_cons_self
      have := h.nN
      omega
    · rw [List.mem_singleton] at hg; subst hg; exact h.nN
  exact ⟨a, [], pre, f, [], h.hh, h.run, h.sy, fun g hg => (by cases hg), h.rc, hlt⟩
theorem filter_keep {A B : List Fi} {l : List Nat} (hl : ∀ k ∈ l, ∀ g ∈ B, g.n ≠ k) : (A ++ B).filter (fun f => !l.contains f.n) = A.filter (fun f => !l.contains f.n) ++ B := by
  rw [List.filter_append]
  congr 1
  exact List.filter_eq_self.2 fun g hg => by
    have : ¬ g.n ∈ l := fun hm => hl _ hm g hg rfl
    simpa using this
theorem filter_all {A : List Fi} {l : List Nat} (hl : ∀ g ∈ A, g.n ∈ l) : A.filter (fun f => !l.contains f.n) = [] :=
  List.filter_eq_nil_iff.2 fun g hg => by have := hl g hg; simpa using this
theorem rep_ways (nm : By) (x : Wl) (base : By) (R : List By) (N a : Nat) (old pre : List Fi) (f : Fi) (jk : List Fi) (h : Dk nm x.st.fs base R N a old pre f jk) (ha : Asc x.st.fs) (hn : nm.length ≤ 32) (hN : N ≤ 99) (hd : x.st.down = false) (hdd : x.dead = false) :
    ((repW nm x old pre f jk).1 = 0 ∧ Live nm (repW nm x old pre f jk).2 base R R.length N ∨
     (repW nm x old pre f jk).1 = 9 ∧ (repW nm x old pre f jk).2.st.down = true ∧ x.st.armed = true ∧ Disk nm (repW nm x old pre f jk).2.st.fs base R N) ∧
    Aft x (repW nm x old pre f jk) 0 ∧ (AllS x.st.fs → AllS (repW nm x old pre f jk).2.st.fs) := by
  have hasc0 := List.pairwise_append.1 h.hh.asc
  have hasc1 := List.pairwise_append.1 hasc0.2.1
  have hasc2 := List.pairwise_cons.1 hasc1.2.1
  obtain ⟨hln, rs, hrs⟩ := h.run.last
  have hokf := h.hh.ok f (by simp)
  unfold repW repC
  rw [show (old.reverse.map fun g => (g.n, 0)) = (old.reverse.map Fi.n).map (fun k => (k, 0)) by rw [List.map_map]; rfl, cutsW_app, cutsW_app,
    show (jk.map fun g => (g.n, 0)) = (jk.map Fi.n).map (fun k => (k, 0)) by rw [List.map_map]; rfl]
  -- what is ahead goes
  obtain ⟨h1, h2, h3, h4⟩ := drops_ways nm hn (old.reverse.map Fi.n) x _ h.hh ha (fun k hk => by obtain ⟨g, hg, rfl⟩ := List.mem_map.1 hk; exact (h.hh.ok g (by simp at hg; simp [hg])).n) hd
  have hop : ∀ l' : List Nat, (∀ k ∈ l', k ∈ old.reverse.map Fi.n) → ∀ k ∈ l', ∀ g ∈ pre ++ (f :: jk), g.n ≠ k := fun l' hl' k hk g hg => by
    obtain ⟨o, ho, rfl⟩ := List.mem_map.1 (hl' k hk)
    have := hasc0.2.2 o (by simpa using ho) g hg
    omega
  obtain ⟨r1, hr1⟩ : ∃ r1, r1 = cutsW nm x ((old.reverse.map Fi.n).map fun k => (k, 0)) := ⟨_, rfl⟩
  rw [← hr1] at h1 h2 h3 h4 ⊢
  have hs1 : AllS x.st.fs → AllS r1.2.st.fs := fun hs g hg => hs g (h4 g hg)
  rcases h1 with ⟨h1, h5⟩ | ⟨h1, h5, h6, h7, h8, l', h9, h10⟩
  case inr =>
    have e9 : ¬ r1.1 = 0 := by rw [h1]; decide
    simp only [e9, if_false]
    rw [filter_keep (hop l' h9)] at h10
    exact ⟨.inr ⟨h1, h5, h8, a, _, pre, f, jk, h10, h.run, h.sy, h.jf, h.rc, fun g hg => h.nN g (by
      rcases List.mem_append.1 hg with hg | hg
      · exact List.mem_append_left _ (List.mem_filter.1 hg).1
      · exact List.mem_append_right _ hg)⟩, ⟨h7, by omega, fun e => by rw [e] at h8; cases h8⟩, hs1⟩
  case inl =>
    rw [if_pos h1.ok]
    rw [filter_keep (hop _ (fun k hk => hk)), filter_all (fun g hg => List.mem_map_of_mem (by simpa using hg)), List.nil_append] at h5
    -- the last one's end goes
    have hB : ∃ f' : Fi, f'.n = f.n ∧ f'.fr = f.fr ∧
        ((cutsW nm r1.2 (if f.p = [] then [] else [(f.n, (cat f.fr).length)])).1 = 0 ∧ f'.p = [] ∧ Holds nm (cutsW nm r1.2 (if f.p = [] then [] else [(f.n, (cat f.fr).length)])).2.st.fs (pre ++ (f' :: jk)) ∧ (cutsW nm r1.2 (if f.p = [] then [] else [(f.n, (cat f.fr).length)])).2.st.down = false ∧ (cutsW nm r1.2 (if f.p = [] then [] else [(f.n, (cat f.fr).length)])).2.dead = false ∨
          Lost r1.2 (cutsW nm r1.2 (if f.p = [] then [] else [(f.n, (cat f.fr).length)]))) ∧
        Aft r1.2 (cutsW nm r1.2 (if f.p = [] then [] else [(f.n, (cat f.fr).length)])) 0 ∧ Asc (cutsW nm r1.2 (if f.p = [] then [] else [(f.n, (cat f.fr).length)])).2.st.fs ∧
        (AllS r1.2.st.fs → AllS (cutsW nm r1.2 (if f.p = [] then [] else [(f.n, (cat f.fr).length)])).2.st.fs) := by
      by_cases hp : f.p = []
      · rw [if_pos hp]
        exact ⟨f, rfl, rfl, .inl ⟨rfl, hp, h5, h1.down, h1.dead.trans hdd⟩, ⟨rfl, Nat.le_refl _, fun e => e⟩, h2, fun e => e⟩
      · rw [if_neg hp]
        have hgb := h5.gB h2 (f := f) (by simp)
        have hcl : (cat f.fr).length ≤ f.b.length := by unfold Fi.b; rw [List.length_append]; omega
        have e1 : ∀ y : Wl, cutsW nm y [(f.n, (cat f.fr).length)] = if (cutW nm y f.n (cat f.fr).length).1 = 0 then (0, (cutW nm y f.n (cat f.fr).length).2) else cutW nm y f.n (cat f.fr).length := fun y => rfl
        rw [e1]
        rcases cut_ways nm r1.2 f.n (cat f.fr).length hn hokf.n h1.down (by rw [hgb.1]; exact hcl) with hdn | hls
        · rw [if_pos hdn.ok]
          have htk : f.b.take (cat f.fr).length = cat f.fr := by unfold Fi.b; rw [List.take_left]
          have hfs := hdn.fs
          rw [hgb.1, hgb.2, htk] at hfs
          obtain ⟨f', hf'⟩ : ∃ f' : Fi, f' = ⟨f.n, f.fr, [], min f.s (cat f.fr).length⟩ := ⟨_, rfl⟩
          have hfb : f'.b = cat f.fr := by rw [hf']; unfold Fi.b; rw [List.append_nil]
          have hfl : (⟨fnm nm f.n, cat f.fr, min f.s (cat f.fr).length⟩ : Fl) = f'.fl nm := by unfold Fi.fl; rw [hfb]; rw [hf']
          have hok' : okFi f' := ⟨by rw [hf']; exact hokf.fr, by rw [hf']; exact part_nil, by rw [hfb, hrs]; simp [cat, enc_ne], by rw [hf']; exact hokf.n⟩
          refine ⟨f', by rw [hf'], by rw [hf'], .inl ⟨rfl, by rw [hf'], ?_, hdn.down, hdn.dead.trans (h1.dead.trans hdd)⟩, ?_, ?_, ?_⟩
          · show Holds nm (cutW nm r1.2 f.n (cat f.fr).length).2.st.fs _
            rw [hfs, hfl]; exact h5.swap h2 (by rw [hf']) hok'
          · refine ⟨hdn.room, ?_, hdn.arm⟩
            show tot (cutW nm r1.2 f.n (cat f.fr).length).2.st.fs ≤ _
            rw [hfs]; exact tot_lay_le _ _ _ _ h2 0 (by rw [hgb.1]; omega)
          · show Asc (cutW nm r1.2 f.n (cat f.fr).length).2.st.fs
            rw [hfs]; exact asc_lay _ _ h2
          · intro hs
            show AllS (cutW nm r1.2 f.n (cat f.fr).length).2.st.fs
            rw [hfs]
            refine allS_lay h2 hs _ _ _ ?_
            have : f.s = f.b.length := hs (f.fl nm) ((h5.mem _).2 ⟨f, by simp, rfl⟩)
            omega
        · rw [if_neg (by rw [hls.e]; decide)]
          exact ⟨⟨f.n, f.fr, [], 0⟩, rfl, rfl, .inr hls, hls.aft 0, by rw [hls.fs]; exact h2, by rw [hls.fs]; exact fun e => e⟩
    obtain ⟨f', hfn, hfr, hB, hBA, hBs, hBS⟩ := hB
    obtain ⟨r2, hr2⟩ : ∃ r2, r2 = cutsW nm r1.2 (if f.p = [] then [] else [(f.n, (cat f.fr).length)]) := ⟨_, rfl⟩
    rw [← hr2] at hB hBA hBs hBS ⊢
    have hA1 : Aft x r1 0 := ⟨h1.room, by omega, h1.arm⟩
    have hA2 : Aft x r2 0 := by simpa using hA1.trans rfl hBA
    rcases hB with ⟨hb1, hb2, hb3, hb4, hb5⟩ | hls
    case inr =>
      have e9 : ¬ r2.1 = 0 := by rw [hls.e]; decide
      simp only [e9, if_false]
      refine ⟨.inr ⟨hls.e, hls.down, ?_, a, [], pre, f, jk, by rw [hls.fs]; exact h5, h.run, h.sy, h.jf, h.rc, fun g hg => h.nN g (List.mem_append_right _ hg)⟩, hA2, fun hs => hBS (hs1 hs)⟩
      have := hls.arm
      cases e : x.st.armed
      · rw [h1.arm e] at this; cases this
      · rfl
    case inl =>
      rw [if_pos hb1]
      have hrun' : Run a base (pre ++ [f']) := h.run.init.snoc (by rw [hfn]; exact hln) ⟨rs, by rw [hfr, hrs]⟩
      have hrc' : recs (pre ++ [f']) = R := by rw [← h.rc, recs_app, recs_app, recs_one, recs_one]; unfold rec1; rw [hfr]
      -- what is behind goes
      obtain ⟨c1, c2, c3, c4⟩ := drops_ways nm hn (jk.map Fi.n) r2.2 _ hb3 hBs (fun k hk => by obtain ⟨g, hg, rfl⟩ := List.mem_map.1 hk; exact (h.hh.ok g (by simp [hg])).n) hb4
      obtain ⟨r3, hr3⟩ : ∃ r3, r3 = cutsW nm r2.2 ((jk.map Fi.n).map fun k => (k, 0)) := ⟨_, rfl⟩
      rw [← hr3] at c1 c2 c3 c4 ⊢
      have hs3 : AllS x.st.fs → AllS r3.2.st.fs := fun hs g hg => hBS (hs1 hs) g (c4 g hg)
      have hjp : ∀ l' : List Nat, (∀ k ∈ l', k ∈ jk.map Fi.n) → ∀ k ∈ l', ∀ g ∈ pre ++ [f'], g.n ≠ k := fun l' hl' k hk g hg => by
        obtain ⟨j, hj, rfl⟩ := List.mem_map.1 (hl' k hk)
        rcases List.mem_append.1 hg with hg | hg
        · have := hasc1.2.2 g hg j (List.mem_cons_of_mem _ hj); omega
        · rw [List.mem_singleton] at hg; subst hg
          have := hasc2.1 j hj; omega
      have hsplit : ∀ l' : List Nat, (∀ k ∈ l', k ∈ jk.map Fi.n) → (pre ++ (f' :: jk)).filter (fun f => !l'.contains f.n) = pre ++ (f' :: jk.filter (fun f => !l'.contains f.n)) := fun l' hl' => by
        rw [show pre ++ (f' :: jk) = (pre ++ [f']) ++ jk by simp, List.filter_append, List.filter_eq_self.2 fun g hg => by
          have : ¬ g.n ∈ l' := fun hm => hjp l' hl' _ hm g hg rfl
          simpa using this]
        simp
      rcases c1 with ⟨c1, c5⟩ | ⟨c1, c5, c6, c7, c8, l', c9, c10⟩
      case inr =>
        simp only [c1]
        rw [if_neg (by decide)]
        rw [hsplit l' c9] at c10
        have harm : x.st.armed = true := by
          cases e : x.st.armed
          · rw [hA2.arm e] at c8; cases c8
          · rfl
        refine ⟨.inr ⟨c1, c5, harm, a, [], pre, f', _, c10, hrun', h.sy, fun g hg => h.jf g (List.mem_filter.1 hg).1, hrc', fun g hg => ?_⟩, ⟨c7.trans hA2.room, by have := hA2.tot; omega, fun e => by rw [e] at harm; cases harm⟩, hs3⟩
        rcases List.mem_append.1 (List.mem_append.1 hg |>.resolve_left (fun h => by cases h)) with hg | hg
        · exact h.nN g (by simp [hg])
        · rcases List.mem_cons.1 hg with rfl | hg
          · rw [hfn]; exact h.nN f (by simp)
          · exact h.nN g (by simp [(List.mem_filter.1 hg).1])
      case inl =>
        simp only [c1.ok, if_true]
        rw [hsplit _ (fun k hk => hk), filter_all (fun g hg => List.mem_map_of_mem hg)] at c5
        have hA3 : Aft x r3 0 := ⟨c1.room.trans hA2.room, by have := hA2.tot; omega, fun e => c1.arm (hA2.arm e)⟩
        obtain ⟨y, hy⟩ : ∃ y : Wl, y = { r3.2 with no := f.n, size := (cat f.fr).length, count := (recs (pre ++ [f])).length } := ⟨_, rfl⟩
        rw [← hy]
        have hyst : y.st = r3.2.st := by rw [hy]
        have hydead : y.dead = false := by rw [hy]; show r3.2.dead = false; rw [c1.dead]; exact hb5
        have hyx : y.no = f.n ∧ y.size = (cat f.fr).length ∧ y.count = (recs (pre ++ [f])).length := by rw [hy]; exact ⟨rfl, rfl, rfl⟩
        have hcy : Holds nm y.st.fs (pre ++ [f']) := by rw [hyst]; exact c5
        have hay : Asc y.st.fs := by rw [hyst]; exact c2
        have hgb := hcy.gB hay (f := f') (by simp)
        have hokf' := hcy.ok f' (by simp)
        rw [hfn] at hgb
        have hfl1 : 1 ≤ f.fr.length := by rw [hrs]; simp
        rcases syn_ways nm y f.n hn hokf.n (by rw [hyst]; exact c1.down) with hdn | hls
        case inr =>
          refine ⟨.inr ⟨hls.e, hls.down, ?_, a, [], pre, f', [], by rw [hls.fs]; exact hcy, hrun', h.sy, fun g hg => (by cases hg), hrc', fun g hg => ?_⟩, ?_, ?_⟩
          · have := hls.arm
            cases e : x.st.armed
            · rw [hyst, hA3.arm e] at this; cases this
            · rfl
          · rcases List.mem_append.1 (List.mem_append.1 hg |>.resolve_left (fun h => by cases h)) with hg | hg
            · exact h.nN g (by simp [hg])
            · rw [List.mem_singleton] at hg; subst hg; rw [hfn]; exact h.nN f (by simp)
          · simpa using hA3.trans hyst (hls.aft 0)
          · rw [hls.fs, hyst]; exact hs3
        case inl =>
          have hfs := hdn.fs
          rw [hgb.1] at hfs
          obtain ⟨f2, hf2⟩ : ∃ f2 : Fi, f2 = ⟨f.n, f.fr, [], f'.b.length⟩ := ⟨_, rfl⟩
          have hfb : f2.b = f'.b := by rw [hf2]; unfold Fi.b; rw [hb2, hfr]
          have hfl : (⟨fnm nm f.n, f'.b, f'.b.length⟩ : Fl) = f2.fl nm := by unfold Fi.fl; rw [hfb]; rw [hf2]
          have hok2 : okFi f2 := ⟨by rw [hf2]; exact hokf.fr, by rw [hf2]; exact part_nil, by rw [hfb]; exact hokf'.ne, by rw [hf2]; exact hokf.n⟩
          have hn2 : f2.n = f.n := by rw [hf2]
          have hfr2 : f2.fr = f.fr := by rw [hf2]
          have hp2 : f2.p = [] := by rw [hf2]
          have hs2 : f2.s = f2.b.length := by rw [hfb, hf2]
          refine ⟨.inl ⟨hdn.ok, ⟨⟨a, pre, f2, f2.fr.length, ⟨?_, h.run.init.snoc (by rw [hn2]; exact hln) ⟨rs, by rw [hfr2, hrs]⟩, h.sy, hp2, ?_, Nat.le_refl _, ?_, fun _ => by rw [hfr2]; exact hfl1, ?_, by rw [hn2]; exact h.nN f (by simp)⟩, ?_, ?_⟩, ?_, ?_, hdn.down⟩⟩, ?_, ?_⟩
          · rw [hfs, hfl]; exact hcy.swap (B := []) hay (by rw [hn2, hfn]) hok2
          · rw [← h.rc, recs_app, recs_app, recs_one, recs_one]; unfold rec1; rw [hfr2]
          · rw [hs2, fi_b hp2, List.take_length]
          · rw [← h.rc, recs_app, recs_one, List.length_append, hfr2]
            have := rec1_len hfl1
            omega
          · rw [hdn.no, hyx.1, hn2]
          · rw [hdn.size, hyx.2.1, fi_b hp2, hfr2]
          · rw [hdn.count, hyx.2.2, h.rc]
          · rw [hdn.dead]; exact hydead
          · have : Aft y (synW nm y f.n) 0 := hdn.aft (by rw [hgb.1]; exact tot_lay_le _ _ _ _ hay 0 (by rw [hgb.1]; omega))
            simpa using hA3.trans hyst this
          · intro hs
            rw [hfs]
            exact allS_lay hay (by rw [hyst]; exact hs3 hs) _ _ _ rfl
/-- a row of frames, cut -/
def cutF : List (Nat × By) → Nat → List (Nat × By) × By
  | [], _ => ([], [])
  | x :: l, k => if (enc x.1 x.2).length ≤ k then (x :: (cutF l (k - (enc x.1 x.2).length)).1, (cutF l (k - (enc x.1 x.2).length)).2) else ([], (enc x.1 x.2).take k)
theorem cutF_cat (l : List (Nat × By)) : ∀ k, k ≤ (cat l).length → cat (cutF l k).1 ++ (cutF l k).2 = (cat l).take k := by
  induction l with
  | nil => intro k _; simp [cutF, cat]
  | cons x l ih =>
    intro k hk
    rw [cat, List.length_append] at hk
    unfold cutF
    split
    · rename_i h
      simp only [cat]
      rw [List.append_assoc, ih _ (by omega), List.take_append, List.take_of_length_le h]
    · rename_i h
      simp only [cat, List.nil_append]
      rw [List.take_append_of_le_length (by omega)]
theorem cutF_part (l : List (Nat × By)) : ∀ k, (∀ x ∈ l, okF x) → Part (cutF l k).2 := by
  induction l with
  | nil => intro k _; exact part_nil
  | cons x l ih =>
    intro k hok
    unfold cutF
    split
    · exact ih _ fun y hy => hok y (List.mem_cons_of_mem _ hy)
    · rename_i h
      refine ⟨x, (enc x.1 x.2).drop k, hok x List.mem_cons_self, fun e => ?_, (List.take_append_drop _ _).symm⟩
      have := congrArg List.length e
      rw [List.length_drop, List.length_nil] at this
      omega
theorem cutF_fr (l : List (Nat × By)) : ∀ k, ∃ j, j ≤ l.length ∧ (cutF l k).1 = l.take j := by
  induction l with
  | nil => intro k; exact ⟨0, Nat.le_refl _, rfl⟩
  | cons x l ih =>
    intro k
    unfold cutF
    split
    · obtain ⟨j, h1, h2⟩ := ih (k - (enc x.1 x.2).length)
      exact ⟨j + 1, by simpa using h1, by rw [List.take_succ_cons, ← h2]⟩
    · exact ⟨0, Nat.zero_le _, rfl⟩
theorem cutF_ge (l : List (Nat × By)) : ∀ k i, i ≤ l.length → (cat (l.take i)).length ≤ k → i ≤ (cutF l k).1.length := by
  induction l with
  | nil => intro k i h _; simpa [cutF] using h
  | cons x l ih =>
    intro k i hi h
    cases i with
    | zero => exact Nat.zero_le _
    | succ i =>
      rw [List.take_succ_cons, cat, List.length_append] at h
      unfold cutF
      rw [if_pos (by omega)]
      simp only [List.length_cons] at hi ⊢
      have := ih (k - (enc x.1 x.2).length) i (by omega) (by omega)
      omega
theorem cutF_eq (l : List (Nat × By)) : ∀ i, i ≤ l.length → cutF l (cat (l.take i)).length = (l.take i, []) := by
  induction l with
  | nil => intro i h; simp [cutF]
  | cons x l ih =>
    intro i hi
    cases i with
    | zero =>
      rw [List.take_zero]
      unfold cutF
      have h0 : (cat []).length = 0 := rfl
      have hne : 0 < (enc x.1 x.2).length := List.length_pos_iff.2 (enc_ne _ _)
      rw [h0, if_neg (by omega), List.take_zero]
    | succ i =>
      simp only [List.length_cons] at hi
      rw [List.take_succ_cons, cat, List.length_append]
      unfold cutF
      rw [if_pos (by omega), Nat.add_sub_cancel_left, ih i (by omega)]
def fiC (κ : Nat → Nat) (f : Fi) : Fi := ⟨f.n, (cutF f.fr (κ f.n)).1, (cutF f.fr (κ f.n)).2, κ f.n⟩
theorem cr_ways (fs : List Fl) : ∀ (g : Nat → Int), Asc fs → (∀ f ∈ fs, f.s ≤ f.b.length) → ∃ κ : By → Nat, (∀ f ∈ fs, f.s ≤ κ f.n ∧ κ f.n ≤ f.b.length) ∧ ((∀ i, g i ≤ 0) → ∀ f ∈ fs, κ f.n = f.s) ∧
    ∀ h, h ∈ cr fs g ↔ ∃ f ∈ fs, h = ⟨f.n, f.b.take (κ f.n), κ f.n⟩ ∧ h.b ≠ [] := by
  induction fs with
  | nil => intro g _ _; exact ⟨fun _ => 0, fun f hf => (by cases hf), fun _ f hf => (by cases hf), fun h => by simp [cr]⟩
  | cons f r ih =>
    intro g ha hs
    unfold Asc at ha ih
    rw [List.pairwise_cons] at ha
    obtain ⟨κ, h1, h2, h3⟩ := ih (fun i => g (i + 1)) ha.2 (fun x hx => hs x (List.mem_cons_of_mem _ hx))
    have hne : ∀ x ∈ r, ¬ x.n = f.n := fun x hx e => lt_ne (ha.1 x hx) e.symm
    have hf := hs f List.mem_cons_self
    refine ⟨fun n => if n = f.n then kn f (g 0) else κ n, fun x hx => ?_, fun h0 x hx => ?_, fun h => ?_⟩
    · rcases List.mem_cons.1 hx with rfl | hx
      · simp only [if_true]; unfold kn; omega
      · simp only [if_neg (hne x hx)]; exact h1 x hx
    · rcases List.mem_cons.1 hx with rfl | hx
      · simp only [if_true]; unfold kn; have := h0 0; omega
      · simp only [if_neg (hne x hx)]; exact h2 (fun i => h0 (i + 1)) x hx
    · rw [cr, List.mem_append, h3]
      constructor
      · rintro (h4 | ⟨x, hx, h4, h5⟩)
        · unfold Pt.one at h4
          split at h4
          · cases h4
          · rename_i h6
            rw [List.mem_singleton] at h4
            exact ⟨f, List.mem_cons_self, by simp only [if_true]; exact h4, by rw [h4]; exact h6⟩
        · exact ⟨x, List.mem_cons_of_mem _ hx, by simp only [if_neg (hne x hx)]; exact h4, h5⟩
      · rintro ⟨x, hx, h4, h5⟩
        rcases List.mem_cons.1 hx with rfl | hx
        · simp only [if_true] at h4
          refine .inl ?_
          unfold Pt.one
          rw [if_neg (by rw [h4] at h5; exact h5)]
          rw [List.mem_singleton]; exact h4
        · simp only [if_neg (hne x hx)] at h4
          exact .inr ⟨x, hx, h4, h5⟩
/-- what a crash leaves -/
theorem crash_ways (nm : By) (fs : List Fl) (ds : List Fi) (g : Nat → Int) (h : Holds nm fs ds) (ha : Asc fs) (hs : ∀ f ∈ fs, f.s ≤ f.b.length) (hp : ∀ f ∈ ds, f.p = []) :
    ∃ κ : Nat → Nat, (∀ f ∈ ds, f.s ≤ κ f.n ∧ κ f.n ≤ f.b.length) ∧ ((∀ i, g i ≤ 0) → ∀ f ∈ ds, κ f.n = f.s) ∧ Holds nm (cr fs g) ((ds.map (fiC κ)).filter fun f => !f.b.isEmpty) ∧ AllS (cr fs g) := by
  obtain ⟨κ, h1, h2, h3⟩ := cr_ways fs g ha hs
  have key : ∀ f ∈ ds, f.s ≤ κ (fnm nm f.n) ∧ κ (fnm nm f.n) ≤ f.b.length := fun f hf => h1 (f.fl nm) ((h.mem _).2 ⟨f, hf, rfl⟩)
  have hfb : ∀ f ∈ ds, (fiC (fun n => κ (fnm nm n)) f).b = f.b.take (κ (fnm nm f.n)) := fun f hf => by
    have := (key f hf).2
    rw [fi_b (hp f hf)] at this ⊢
    exact cutF_cat f.fr _ this
  refine ⟨fun n => κ (fnm nm n), key, fun h0 f hf => h2 h0 (f.fl nm) ((h.mem _).2 ⟨f, hf, rfl⟩), ⟨fun x => ?_, ?_, fun f hf => ?_⟩, fun x hx => ?_⟩
  · rw [h3]
    constructor
    · rintro ⟨y, hy, h4, h5⟩
      obtain ⟨f, hf, rfl⟩ := (h.mem y).1 hy
      refine ⟨fiC (fun n => κ (fnm nm n)) f, List.mem_filter.2 ⟨List.mem_map_of_mem hf, ?_⟩, ?_⟩
      · rw [hfb f hf]
        rw [h4] at h5
        have : f.b.take (κ (fnm nm f.n)) ≠ [] := h5
        simpa using this
      · rw [h4]; unfold Fi.fl; rw [hfb f hf]; rfl
    · rintro ⟨y, hy, rfl⟩
      obtain ⟨hy1, hy2⟩ := List.mem_filter.1 hy
      obtain ⟨f, hf, rfl⟩ := List.mem_map.1 hy1
      refine ⟨f.fl nm, (h.mem _).2 ⟨f, hf, rfl⟩, ?_, ?_⟩
      · unfold Fi.fl; rw [hfb f hf]; rfl
      · show (fiC (fun n => κ (fnm nm n)) f).b ≠ []
        intro e; rw [e] at hy2; simp at hy2
  · refine List.Pairwise.filter _ ?_
    rw [List.pairwise_map]
    exact h.asc
  · obtain ⟨hy1, hy2⟩ := List.mem_filter.1 hf
    obtain ⟨f0, hf0, rfl⟩ := List.mem_map.1 hy1
    have hok := h.ok f0 hf0
    obtain ⟨j, _, hj⟩ := cutF_fr f0.fr (κ (fnm nm f0.n))
    refine ⟨fun x hx => hok.fr x ?_, cutF_part _ _ hok.fr, fun e => ?_, hok.n⟩
    · have hx' : x ∈ (cutF f0.fr (κ (fnm nm f0.n))).1 := hx
      rw [hj] at hx'
      exact List.mem_of_mem_take hx'
    · rw [e] at hy2; simp at hy2
  · obtain ⟨f, hf, h4, h5⟩ := (h3 x).1 hx
    rw [h4]
    simp only [List.length_take]
    have := (h1 f hf).2
    omega
/-- a file that is synced whole stays -/
theorem fiC_whole {κ : Nat → Nat} {f : Fi} (hp : f.p = []) (hs : f.s = f.b.length) (h : f.s ≤ κ f.n ∧ κ f.n ≤ f.b.length) : fiC κ f = f := by
  have hk : κ f.n = (cat (f.fr.take f.fr.length)).length := by rw [List.take_length, ← fi_b hp]; omega
  unfold fiC
  have := cutF_eq f.fr f.fr.length (Nat.le_refl _)
  rw [← hk, List.take_length] at this
  rw [this]
  cases f
  simp only at hp hs h ⊢
  subst hp
  congr 1
  omega
theorem fi_ne {f : Fi} (h : okFi f) : (!f.b.isEmpty) = true := by
  have := h.ne
  cases hb : f.b with
  | nil => exact absurd hb this
  | cons c r => rfl
theorem map_whole {nm : By} {fs : List Fl} {A B : List Fi} {κ : Nat → Nat} (h : Holds nm fs (A ++ B)) (hA : ∀ g ∈ A, g.p = [] ∧ g.s = g.b.length) (hk : ∀ f ∈ A ++ B, f.s ≤ κ f.n ∧ κ f.n ≤ f.b.length) :
    (((A ++ B).map (fiC κ)).filter fun f => !f.b.isEmpty) = A ++ ((B.map (fiC κ)).filter fun f => !f.b.isEmpty) := by
  rw [List.map_append, List.filter_append]
  congr 1
  have e : A.map (fiC κ) = A := by
    have e1 : A.map (fiC κ) = A.map id := List.map_congr_left fun g hg => fiC_whole (hA g hg).1 (hA g hg).2 (hk g (List.mem_append_left _ hg))
    rw [e1, List.map_id]
  rw [e]
  exact List.filter_eq_self.2 fun g hg => fi_ne (h.ok g (List.mem_append_left _ hg))
/-- the last file and what stands behind it, cut by a crash: old ++ pre ++ (f cut) ++ others -/
theorem disk_of {nm : By} {fs fs' : List Fl} {base : By} {R : List By} {k N a : Nat} {pre : List Fi} {f : Fi} {i : Nat} (h : LDs nm fs base R k N a pre f i) (κ : Nat → Nat) (hk : f.s ≤ κ f.n ∧ κ f.n ≤ f.b.length) (jk : List Fi)
    (hj : ∀ g ∈ jk, g.fr = [] ∧ g.n ≤ N) (hH : Holds nm fs' (pre ++ ((([f].map (fiC κ)).filter fun f => !f.b.isEmpty) ++ jk))) : ∃ m, k ≤ m ∧ m ≤ R.length ∧ (κ f.n = f.s → m = k) ∧ Disk nm fs' base (R.take m) N := by
  obtain ⟨hln, rs, hrs⟩ := h.run.last
  have hcl := cutF_ge f.fr (κ f.n) i h.il (by rw [← h.ss]; exact hk.1)
  obtain ⟨j, hjl, hje⟩ := cutF_fr f.fr (κ f.n)
  have hjlen : (cutF f.fr (κ f.n)).1.length = j := by rw [hje, List.length_take]; omega
  have heq : κ f.n = f.s → j = i := fun e => by
    have := cutF_eq f.fr i h.il
    rw [← h.ss, ← e] at this
    rw [this] at hjlen
    simp only [List.length_take] at hjlen
    have := h.il
    omega
  have hpN : ∀ g ∈ pre, g.n ≤ N := fun g hg => by
    have := (List.pairwise_append.1 h.hh.asc).2.2 g hg f List.mem_cons_self
    have := h.nN
    omega
  have hR : R = recs pre ++ rs := by rw [← h.rc, recs_app, recs_one, rec1_of hrs]
  have hkk := h.kk
  by_cases h0 : j = 0
  · -- nothing whole of the last file
    have hi0 : i = 0 := by omega
    have hpne : pre ≠ [] := fun e => by have := h.one e; omega
    obtain ⟨pre', f0, rfl⟩ : ∃ pre' f0, pre = pre' ++ [f0] := ⟨pre.dropLast, pre.getLast hpne, (List.dropLast_concat_getLast hpne).symm⟩
    have hfr0 : (cutF f.fr (κ f.n)).1 = [] := by rw [hje, h0, List.take_zero]
    refine ⟨(recs (pre' ++ [f0])).length, by omega, by rw [hR, List.length_append]; omega, fun _ => by omega, a, [], pre', f0, ([f].map (fiC κ)).filter (fun f => !f.b.isEmpty) ++ jk, ?_, h.run.init, fun g hg => h.sy g (List.mem_append_left _ hg), fun g hg => ?_, by rw [hR, List.take_left], fun g hg => ?_⟩
    · rw [List.nil_append]
      rw [List.append_assoc] at hH
      exact hH
    · rcases List.mem_append.1 hg with hg | hg
      · have := (List.mem_filter.1 hg).1
        rw [List.map_singleton, List.mem_singleton] at this
        subst this
        exact hfr0
      · exact (hj g hg).1
    · rcases List.mem_append.1 (List.mem_append.1 hg |>.resolve_left (fun h => by cases h)) with hg | hg
      · exact hpN g (List.mem_append_left _ hg)
      · rcases List.mem_cons.1 hg with rfl | hg
        · exact hpN _ (by simp)
        · rcases List.mem_append.1 hg with hg | hg
          · have := (List.mem_filter.1 hg).1
            rw [List.map_singleton, List.mem_singleton] at this
            subst this
            exact h.nN
          · exact (hj g hg).2
  · obtain ⟨f', hf'⟩ : ∃ f', f' = fiC κ f := ⟨_, rfl⟩
    have hn' : f'.n = f.n := by rw [hf']; rfl
    have hfr' : f'.fr = f.fr.take j := by rw [hf', ← hje]; rfl
    have hrs' : f'.fr = hdr pre.length base :: (rs.take (j - 1)).map fun r => (2, r) := by
      rw [hfr', hrs]
      obtain ⟨j', rfl⟩ : ∃ j', j = j' + 1 := ⟨j - 1, by omega⟩
      rw [List.take_succ_cons, Nat.add_sub_cancel, List.map_take]
    have hne : (!f'.b.isEmpty) = true := by
      unfold Fi.b
      rw [hrs', cat]
      have := enc_ne (hdr pre.length base).1 (hdr pre.length base).2
      cases he : enc (hdr pre.length base).1 (hdr pre.length base).2 with
      | nil => exact absurd he this
      | cons c r => rfl
    rw [List.map_singleton, ← hf', List.filter_cons, if_pos hne, List.filter_nil, List.singleton_append] at hH
    have hjr : j ≤ rs.length + 1 := by rw [hrs] at hjl; simpa using hjl
    refine ⟨(recs pre).length + (j - 1), by omega, by rw [hR, List.length_append]; omega, fun e => by rw [hkk, heq e], a, [], pre, f', jk, by rw [List.nil_append]; exact hH, h.run.init.snoc (by rw [hn']; exact hln) ⟨_, hrs'⟩, h.sy, fun g hg => (hj g hg).1, ?_, fun g hg => ?_⟩
    · rw [recs_app, recs_one, rec1_of hrs', hR, List.take_length_add_append]
    · rcases List.mem_append.1 (List.mem_append.1 hg |>.resolve_left (fun h => by cases h)) with hg | hg
      · exact hpN g hg
      · rcases List.mem_cons.1 hg with rfl | hg
        · rw [hn']; exact h.nN
        · exact (hj g hg).2
theorem ld_crash {nm : By} {fs : List Fl} {base : By} {R : List By} {k N : Nat} (h : LD nm fs base R k N) (ha : Asc fs) (hs : ∀ f ∈ fs, f.s ≤ f.b.length) (g : Nat → Int) :
    ∃ m, k ≤ m ∧ m ≤ R.length ∧ ((∀ i, g i ≤ 0) → m = k) ∧ Disk nm (cr fs g) base (R.take m) N ∧ AllS (cr fs g) := by
  obtain ⟨a, pre, f, i, h⟩ := h
  obtain ⟨κ, h1, h2, h3, h4⟩ := crash_ways nm fs (pre ++ [f]) g h.hh ha hs (fun x hx => by
    rcases List.mem_append.1 hx with hx | hx
    · exact (h.sy x hx).1
    · rw [List.mem_singleton] at hx; subst hx; exact h.pp)
  rw [map_whole h.hh h.sy h1] at h3
  obtain ⟨m, h5, h6, h7, h8⟩ := disk_of h κ (h1 f (by simp)) [] (fun g hg => by cases hg) (by rw [List.append_nil]; exact h3)
  exact ⟨m, h5, h6, fun h0 => h7 (h2 h0 f (by simp)), h8, h4⟩
theorem cd_crash {nm : By} {fs : List Fl} {base base' : By} {R : List By} {k N : Nat} (h : CD nm fs base R k base' N) (ha : Asc fs) (hs : ∀ f ∈ fs, f.s ≤ f.b.length) (g : Nat → Int) :
    ((∃ m, k ≤ m ∧ m ≤ R.length ∧ Disk nm (cr fs g) base (R.take m) N) ∨ Disk nm (cr fs g) base' [] N) ∧ AllS (cr fs g) := by
  obtain ⟨old, c, hH, hcf, hcp, hcN, hop, hw⟩ := h
  obtain ⟨κ, h1, h2, h3, h4⟩ := crash_ways nm fs (old ++ [c]) g hH ha hs (fun x hx => by
    rcases List.mem_append.1 hx with hx | hx
    · exact hop x hx
    · rw [List.mem_singleton] at hx; subst hx; exact hcp)
  refine ⟨?_, h4⟩
  have hcn := h1 c (by simp)
  have holdN : ∀ g ∈ (old.map (fiC κ)).filter (fun f => !f.b.isEmpty), g.n ≤ N := fun g hg => by
    obtain ⟨g0, hg0, rfl⟩ := List.mem_map.1 (List.mem_filter.1 hg).1
    have := (List.pairwise_append.1 hH.asc).2.2 g0 hg0 c List.mem_cons_self
    show g0.n ≤ N
    omega
  have hcb : c.b = enc 0 base' := by rw [fi_b hcp, hcf, cat_one]
  rw [List.map_append, List.filter_append] at h3
  obtain ⟨j, hjl, hje⟩ := cutF_fr c.fr (κ c.n)
  -- the new base is there
  have whole : (cutF c.fr (κ c.n)).1 = [(0, base')] → Disk nm (cr fs g) base' [] N := fun e => by
    have hne : (!(fiC κ c).b.isEmpty) = true := by
      unfold Fi.b
      rw [show (fiC κ c).fr = [(0, base')] from e, cat_one]
      have := enc_ne 0 base'
      cases he : enc 0 base' with
      | nil => exact absurd he this
      | cons c r => simp
    rw [List.map_singleton, List.filter_cons, if_pos hne, List.filter_nil] at h3
    refine ⟨c.n, _, [], fiC κ c, [], h3, (Run.nil c.n base').snoc rfl ⟨[], e⟩, fun g hg => (by cases hg), fun g hg => (by cases hg), ?_, fun g hg => ?_⟩
    · rw [List.nil_append, recs_one]; unfold rec1; rw [show (fiC κ c).fr = [(0, base')] from e]; rfl
    · rcases List.mem_append.1 hg with hg | hg
      · exact holdN g hg
      · rw [List.nil_append, List.mem_singleton] at hg; subst hg; exact hcN
  rw [hcf] at hjl
  simp only [List.length_cons, List.length_nil] at hjl
  rcases (show j = 0 ∨ j = 1 by omega) with rfl | rfl
  case inr => exact .inr (whole (by rw [hje, hcf]; rfl))
  case inl =>
    rw [List.take_zero] at hje
    rcases hw with hw | ⟨hw, a, pre, f, i, fs0, rfl, hl⟩
    · exfalso
      have := cutF_ge c.fr (κ c.n) 1 (by rw [hcf]; exact Nat.le_refl _) (by rw [hcf]; show (cat [(0, base')]).length ≤ _; rw [cat_one, ← hcb]; omega)
      rw [hje] at this
      simp at this
    · refine .inl ?_
      have hfw := h1 f (by simp)
      have e1 : (((pre ++ [f]).map (fiC κ)).filter fun f => !f.b.isEmpty) = pre ++ (([f].map (fiC κ)).filter fun f => !f.b.isEmpty) := map_whole (B := [f]) hl.hh hl.sy (fun x hx => h1 x (List.mem_append_left _ hx))
      rw [e1, List.append_assoc] at h3
      obtain ⟨m, h5, h6, h7, h8⟩ := disk_of hl κ hfw _ (fun g hg => by
        have := (List.mem_filter.1 hg).1
        rw [List.map_singleton, List.mem_singleton] at this
        subst this
        exact ⟨hje, hcN⟩) h3
      exact ⟨m, h5, h6, h8⟩
/-- all is synced: a crash changes nothing -/
theorem cr_still {fs : List Fl} (h : AllS fs) (hne : ∀ f ∈ fs, f.b ≠ []) : ∀ g, cr fs g = fs := by
  induction fs with
  | nil => intro g; rfl
  | cons f r ih =>
    intro g
    have hf := h f List.mem_cons_self
    have e : kn f (g 0) = f.b.length := by unfold kn; omega
    rw [cr, ih (fun x hx => h x (List.mem_cons_of_mem _ hx)) (fun x hx => hne x (List.mem_cons_of_mem _ hx))]
    unfold Pt.one
    rw [e, List.take_length, if_neg (hne f List.mem_cons_self), ← hf]
    rfl
theorem tot_cr (fs : List Fl) : ∀ g, tot (cr fs g) ≤ tot fs := by
  induction fs with
  | nil => intro g; exact Nat.le_refl _
  | cons f r ih =>
    intro g
    have hc : ∀ (k : Fl) l, tot (k :: l) = k.b.length + tot l := fun k l => by simp [tot]
    have := ih (fun i => g (i + 1))
    rw [cr, hc]
    unfold Pt.one
    split
    · rw [List.nil_append]; omega
    · rw [List.singleton_append, hc, List.length_take]; omega
end Go.Proofs.YthofbblgoamipaaGreatDoor.Wa
