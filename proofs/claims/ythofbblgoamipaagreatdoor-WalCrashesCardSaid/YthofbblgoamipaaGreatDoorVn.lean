/-
  Chapter 12, plain: what the log's calls make of its files; what a crash leaves.
-/
import Derived.Test.YthofbblgoamipaaGreatDoorVm
namespace Go.Proofs.YthofbblgoamipaaGreatDoor.Wa
open Go.RowKit Pt
set_option linter.unusedVariables false
set_option linter.unusedSimpArgs false

theorem chg0 (st : St) (x : By) (hx : 1 ≤ x.length ∧ x.length ≤ 64) (hd : st.down = false) :
    ((chg st x).1 = 0 ∧ (chg st x).2.fs = st.fs ∧ (chg st x).2.room = st.room ∧ (chg st x).2.down = false ∧ (st.armed = false → (chg st x).2.armed = false)) ∨
    (chg st x = (9, { st with down := true }) ∧ st.armed = true) := by
  have h0 : askedC st.down x = 0 := by unfold askedC; rw [if_neg (by omega), hd]; rfl
  unfold chg
  rw [if_pos h0]
  cases ha : st.armed
  · exact .inl ⟨rfl, rfl, rfl, hd, fun _ => ha⟩
  · rw [if_pos rfl]
    by_cases hl : st.left = 0
    · rw [if_pos hl]; exact .inr ⟨rfl, rfl⟩
    · rw [if_neg hl]
      exact .inl ⟨rfl, rfl, rfl, hd, fun h => by cases h⟩
theorem mem_lay_iff {f g : Fl} {fs : List Fl} (ha : Asc fs) : g ∈ lay f fs ↔ (g = f ∧ f.b ≠ []) ∨ (g ∈ fs ∧ g.n ≠ f.n) := by
  refine ⟨mem_lay ha, fun h => ?_⟩
  have key : ∀ k, get (lay f fs) k.n = some k → k ∈ lay f fs := fun k hk => (get_name hk).1
  refine key g ?_
  rw [get_lay f fs g.n ha]
  rcases h with ⟨rfl, hb⟩ | ⟨h1, h2⟩
  · rw [if_pos rfl, if_neg hb]
  · rw [if_neg (fun e => h2 e.symm), get_mem ha h1]
/-- the state behind a call that was done; the power went out in it -/
structure Done (x : Wl) (r : Nat × Wl) (fs : List Fl) : Prop where
  ok : r.1 = 0
  fs : r.2.st.fs = fs
  room : r.2.st.room = x.st.room
  down : r.2.st.down = false
  arm : x.st.armed = false → r.2.st.armed = false
  no : r.2.no = x.no
  size : r.2.size = x.size
  count : r.2.count = x.count
  dead : r.2.dead = x.dead
structure Lost (x : Wl) (r : Nat × Wl) : Prop where
  e : r.1 = 9
  fs : r.2.st.fs = x.st.fs
  room : r.2.st.room = x.st.room
  down : r.2.st.down = true
  dead : r.2.dead = true
  arm : x.st.armed = true
theorem lost_of {x : Wl} {n : By} {r : Nat × St} (h : r = (9, { x.st with down := true })) (ha : x.st.armed = true) : Lost x (fst1 x r) := by
  subst h
  exact ⟨rfl, rfl, rfl, rfl, by simp [fst1], ha⟩
theorem done_of {x : Wl} {r : Nat × St} {fs : List Fl} (h1 : r.1 = 0) (h2 : r.2.fs = fs) (h3 : r.2.room = x.st.room) (h4 : r.2.down = false) (h5 : x.st.armed = false → r.2.armed = false) : Done x (fst1 x r) fs :=
  ⟨h1, h2, h3, h4, h5, rfl, rfl, rfl, by simp [fst1, h1]⟩
theorem cut_ways (nm : By) (x : Wl) (k n : Nat) (hn : nm.length ≤ 32) (hk : k ≤ 99) (hd : x.st.down = false) (hl : n ≤ (gB x.st.fs (fnm nm k)).length) :
    Done x (cutW nm x k n) (lay ⟨fnm nm k, (gB x.st.fs (fnm nm k)).take n, min (gS x.st.fs (fnm nm k)) n⟩ x.st.fs) ∨ Lost x (cutW nm x k n) := by
  have hx := fnm_len nm k hk
  unfold cutW cut
  rcases chg0 x.st (fnm nm k) ⟨hx.2, by omega⟩ hd with ⟨h1, h2, h3, h4, h5⟩ | ⟨h1, h2⟩
  · refine .inl ?_
    rw [if_pos h1, if_neg (by omega)]
    exact done_of rfl (by simp) h3 h4 h5
  · refine .inr ?_
    rw [h1]
    exact lost_of (n := nm) rfl h2
theorem syn_ways (nm : By) (x : Wl) (k : Nat) (hn : nm.length ≤ 32) (hk : k ≤ 99) (hd : x.st.down = false) :
    Done x (synW nm x k) (lay ⟨fnm nm k, gB x.st.fs (fnm nm k), (gB x.st.fs (fnm nm k)).length⟩ x.st.fs) ∨ Lost x (synW nm x k) := by
  have hx := fnm_len nm k hk
  unfold synW syn
  rcases chg0 x.st (fnm nm k) ⟨hx.2, by omega⟩ hd with ⟨h1, h2, h3, h4, h5⟩ | ⟨h1, h2⟩
  · refine .inl ?_
    rw [if_pos h1]
    exact done_of rfl rfl h3 h4 h5
  · refine .inr ?_
    rw [h1]
    exact lost_of (n := nm) rfl h2
theorem app_ways (nm : By) (x : Wl) (k : Nat) (b : By) (hn : nm.length ≤ 32) (hk : k ≤ 99) (hd : x.st.down = false) (hr : tot x.st.fs + b.length ≤ x.st.room) :
    Done x (appW nm x k b) (lay ⟨fnm nm k, gB x.st.fs (fnm nm k) ++ b, gS x.st.fs (fnm nm k)⟩ x.st.fs) ∨ Lost x (appW nm x k b) := by
  have hx := fnm_len nm k hk
  unfold appW app
  rcases chg0 x.st (fnm nm k) ⟨hx.2, by omega⟩ hd with ⟨h1, h2, h3, h4, h5⟩ | ⟨h1, h2⟩
  · refine .inl ?_
    rw [if_pos h1, if_neg (by omega)]
    exact done_of rfl rfl h3 h4 h5
  · refine .inr ?_
    rw [h1]
    exact lost_of (n := nm) rfl h2
theorem tot_lay_le (x b : By) (s : Nat) (fs : List Fl) (ha : Asc fs) (n : Nat) (h : b.length ≤ (gB fs x).length + n) : tot (lay ⟨x, b, s⟩ fs) ≤ tot fs + n := by
  have := tot_lay ⟨x, b, s⟩ fs ha
  simp only at this
  omega
/-- a file goes -/
theorem Holds.drop {nm : By} {fs : List Fl} {ds : List Fi} (h : Holds nm fs ds) (ha : Asc fs) (k : Nat) (hk : k ≤ 99) (s : Nat) : Holds nm (lay ⟨fnm nm k, [], s⟩ fs) (ds.filter fun f => !(f.n == k)) := by
  refine ⟨fun g => ?_, h.asc.filter _, fun f hf => h.ok f (List.mem_filter.1 hf).1⟩
  rw [mem_lay_iff ha]
  constructor
  · rintro (⟨_, h0⟩ | ⟨h1, h2⟩)
    · exact absurd rfl h0
    · obtain ⟨f, hf, rfl⟩ := (h.mem g).1 h1
      exact ⟨f, List.mem_filter.2 ⟨hf, by simp; exact fun e => h2 (by show fnm nm f.n = _; rw [e])⟩, rfl⟩
  · rintro ⟨f, hf, rfl⟩
    obtain ⟨h1, h2⟩ := List.mem_filter.1 hf
    refine .inr ⟨(h.mem _).2 ⟨f, h1, rfl⟩, fun e => ?_⟩
    have := fnm_inj (h.ok f h1).n hk e
    simp [this] at h2
/-- a file is another one of the same number -/
theorem Holds.swap {nm : By} {fs : List Fl} {A B : List Fi} {f f' : Fi} (h : Holds nm fs (A ++ f :: B)) (ha : Asc fs) (hn : f'.n = f.n) (ho : okFi f') : Holds nm (lay (f'.fl nm) fs) (A ++ f' :: B) := by
  have hok := h.ok f (by simp)
  have hA : ∀ g ∈ A, g.n < f.n := fun g hg => (List.pairwise_append.1 h.asc).2.2 g hg f List.mem_cons_self
  have hB : ∀ g ∈ B, f.n < g.n := (List.pairwise_cons.1 (List.pairwise_append.1 h.asc).2.1).1
  refine ⟨fun g => ?_, ?_, fun g hg => ?_⟩
  · rw [mem_lay_iff ha]
    constructor
    · rintro (⟨rfl, _⟩ | ⟨h1, h2⟩)
      · exact ⟨f', by simp, rfl⟩
      · obtain ⟨g', hg', rfl⟩ := (h.mem g).1 h1
        rcases List.mem_append.1 hg' with hg' | hg'
        · exact ⟨g', by simp [hg'], rfl⟩
        · rcases List.mem_cons.1 hg' with rfl | hg'
          · exact absurd (show fnm nm g'.n = fnm nm f'.n by rw [hn]) h2
          · exact ⟨g', by simp [hg'], rfl⟩
    · rintro ⟨g', hg', rfl⟩
      have key : ∀ g, g ∈ A ++ f :: B → g.n ≠ f.n → (g.fl nm) ∈ fs ∧ (g.fl nm).n ≠ (f'.fl nm).n := fun g hg hne => by
        refine ⟨(h.mem _).2 ⟨g, hg, rfl⟩, fun e => hne ?_⟩
        have := fnm_inj (h.ok g hg).n (by rw [hn]; exact hok.n) (show fnm nm g.n = fnm nm f'.n from e)
        rw [this, hn]
      rcases List.mem_append.1 hg' with hg' | hg'
      · exact .inr (key g' (by simp [hg']) (by have := hA g' hg'; omega))
      · rcases List.mem_cons.1 hg' with rfl | hg'
        · exact .inl ⟨rfl, ho.ne⟩
        · exact .inr (key g' (by simp [hg']) (by have := hB g' hg'; omega))
  · have h1 := h.asc
    rw [List.pairwise_append, List.pairwise_cons] at h1 ⊢
    refine ⟨h1.1, ⟨fun g hg => by rw [hn]; exact hB g hg, h1.2.1.2⟩, fun a h2 b hb => ?_⟩
    rcases List.mem_cons.1 hb with rfl | hb
    · rw [hn]; exact hA a h2
    · exact h1.2.2 a h2 b (List.mem_cons_of_mem _ hb)
  · rcases List.mem_append.1 hg with hg | hg
    · exact h.ok g (by simp [hg])
    · rcases List.mem_cons.1 hg with rfl | hg
      · exact ho
      · exact h.ok g (by simp [hg])
/-- a new file, behind all others -/
theorem Holds.snoc {nm : By} {fs : List Fl} {ds : List Fi} {f : Fi} (h : Holds nm fs ds) (ha : Asc fs) (hl : ∀ g ∈ ds, g.n < f.n) (ho : okFi f) : Holds nm (lay (f.fl nm) fs) (ds ++ [f]) := by
  refine ⟨fun g => ?_, ?_, fun g hg => ?_⟩
  · rw [mem_lay_iff ha]
    constructor
    · rintro (⟨rfl, _⟩ | ⟨h1, h2⟩)
      · exact ⟨f, by simp, rfl⟩
      · obtain ⟨g', hg', rfl⟩ := (h.mem g).1 h1
        exact ⟨g', by simp [hg'], rfl⟩
    · rintro ⟨g', hg', rfl⟩
      rcases List.mem_append.1 hg' with hg' | hg'
      · refine .inr ⟨(h.mem _).2 ⟨g', hg', rfl⟩, fun e => ?_⟩
        have := fnm_inj (h.ok g' hg').n ho.n (show fnm nm g'.n = fnm nm f.n from e)
        have := hl g' hg'
        omega
      · rw [List.mem_singleton] at hg'
        subst hg'
        exact .inl ⟨rfl, ho.ne⟩
  · rw [List.pairwise_append]
    exact ⟨h.asc, List.pairwise_singleton _ _, fun a h2 b hb => by rw [List.mem_singleton] at hb; subst hb; exact hl a h2⟩
  · rcases List.mem_append.1 hg with hg | hg
    · exact h.ok g hg
    · rw [List.mem_singleton] at hg; subst hg; exact ho
/-- files that go, one behind the other -/
theorem drops_ways (nm : By) (hn : nm.length ≤ 32) : ∀ (l : List Nat) (x : Wl) (ds : List Fi), Holds nm x.st.fs ds → Asc x.st.fs → (∀ k ∈ l, k ≤ 99) → x.st.down = false →
    (Done x (cutsW nm x (l.map fun k => (k, 0))) (cutsW nm x (l.map fun k => (k, 0))).2.st.fs ∧ Holds nm (cutsW nm x (l.map fun k => (k, 0))).2.st.fs (ds.filter fun f => !l.contains f.n) ∨
     (cutsW nm x (l.map fun k => (k, 0))).1 = 9 ∧ (cutsW nm x (l.map fun k => (k, 0))).2.st.down = true ∧ (cutsW nm x (l.map fun k => (k, 0))).2.dead = true ∧ (cutsW nm x (l.map fun k => (k, 0))).2.st.room = x.st.room ∧ x.st.armed = true ∧
       ∃ l' : List Nat, (∀ k ∈ l', k ∈ l) ∧ Holds nm (cutsW nm x (l.map fun k => (k, 0))).2.st.fs (ds.filter fun f => !l'.contains f.n)) ∧
    Asc (cutsW nm x (l.map fun k => (k, 0))).2.st.fs ∧ tot (cutsW nm x (l.map fun k => (k, 0))).2.st.fs ≤ tot x.st.fs ∧ (∀ g ∈ (cutsW nm x (l.map fun k => (k, 0))).2.st.fs, g ∈ x.st.fs) := by
  intro l
  induction l with
  | nil =>
    intro x ds h ha _ hd
    refine ⟨.inl ⟨⟨rfl, rfl, rfl, hd, id, rfl, rfl, rfl, rfl⟩, ?_⟩, ha, Nat.le_refl _, fun g hg => hg⟩
    have : ds.filter (fun f => !([] : List Nat).contains f.n) = ds := List.filter_eq_self.2 (fun f _ => rfl)
    rw [this]; exact h
  | cons k l ih =>
    intro x ds h ha hl hd
    have hk := hl k List.mem_cons_self
    simp only [List.map_cons, cutsW]
    rcases cut_ways nm x k 0 hn hk hd (Nat.zero_le _) with hdn | hls
    · rw [if_pos hdn.ok]
      have hfs := hdn.fs
      rw [List.take_zero, Nat.min_zero] at hfs
      have h1 : Holds nm (cutW nm x k 0).2.st.fs (ds.filter fun f => !(f.n == k)) := by rw [hfs]; exact h.drop ha k hk 0
      have ha1 : Asc (cutW nm x k 0).2.st.fs := by rw [hfs]; exact asc_lay _ _ ha
      have ht1 : tot (cutW nm x k 0).2.st.fs ≤ tot x.st.fs := by rw [hfs]; exact tot_lay_le _ _ _ _ ha 0 (by simp)
      have hm1 : ∀ g ∈ (cutW nm x k 0).2.st.fs, g ∈ x.st.fs := fun g hg => by
        rw [hfs] at hg
        rcases (mem_lay_iff ha).1 hg with ⟨_, h0⟩ | ⟨h0, _⟩
        · exact absurd rfl h0
        · exact h0
      have hf : ∀ l' : List Nat, (ds.filter fun f => !(f.n == k)).filter (fun f => !l'.contains f.n) = ds.filter fun f => !(k :: l').contains f.n := fun l' => by
        rw [List.filter_filter]
        congr 1
        funext f
        simp only [List.contains_cons]
        cases (f.n == k) <;> cases l'.contains f.n <;> rfl
      obtain ⟨h2, h3, h4, h5⟩ := ih _ _ h1 ha1 (fun j hj => hl j (List.mem_cons_of_mem _ hj)) hdn.down
      refine ⟨?_, h3, Nat.le_trans h4 ht1, fun g hg => hm1 g (h5 g hg)⟩
      rcases h2 with ⟨h2, h6⟩ | ⟨h2, h6, h7, h8, h9, l', h10, h11⟩
      · refine .inl ⟨⟨h2.ok, rfl, h2.room.trans hdn.room, h2.down, fun e => h2.arm (hdn.arm e), h2.no.trans hdn.no, h2.size.trans hdn.size, h2.count.trans hdn.count, h2.dead.trans hdn.dead⟩, ?_⟩
        rw [← hf]; exact h6
      · refine .inr ⟨h2, h6, h7, h8.trans hdn.room, ?_, k :: l', fun j hj => ?_, ?_⟩
        · cases e : x.st.armed
          · rw [hdn.arm e] at h9; cases h9
          · rfl
        · rcases List.mem_cons.1 hj with rfl | hj
          · exact List.mem_cons_self
          · exact List.mem_cons_of_mem _ (h10 j hj)
        · rw [← hf]; exact h11
    · rw [if_neg (by rw [hls.e]; decide)]
      refine ⟨.inr ⟨hls.e, hls.down, hls.dead, hls.room, hls.arm, [], fun j hj => (by cases hj), ?_⟩, by rw [hls.fs]; exact ha, by rw [hls.fs]; exact Nat.le_refl _, fun g hg => by rw [hls.fs] at hg; exact hg⟩
      have : ds.filter (fun f => !([] : List Nat).contains f.n) = ds := List.filter_eq_self.2 (fun f _ => rfl)
      rw [this, hls.fs]; exact h
end Go.Proofs.YthofbblgoamipaaGreatDoor.Wa
