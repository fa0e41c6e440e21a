/-
  Chapter 12, plain: a log at work (LD its disk, Live the log), a disk that a log is opened from (Disk), and what each call makes of them.
-/
import Derived.Test.YthofbblgoamipaaGreatDoorVn
namespace Go.Proofs.YthofbblgoamipaaGreatDoor.Wa
open Go.RowKit Pt
set_option linter.unusedVariables false
set_option linter.unusedSimpArgs false

theorem Run.init {a : Nat} {base : By} {l m : List Fi} (h : Run a base (l ++ m)) : Run a base l :=
  ⟨fun i f hf => h.num i f (by rw [List.getElem?_append_left (List.getElem?_eq_some_iff.1 hf).1]; exact hf), fun i f hf => h.hd i f (by rw [List.getElem?_append_left (List.getElem?_eq_some_iff.1 hf).1]; exact hf)⟩
theorem Run.last {a : Nat} {base : By} {l : List Fi} {f : Fi} (h : Run a base (l ++ [f])) : f.n = a + l.length ∧ ∃ rs : List By, f.fr = hdr l.length base :: rs.map fun r => (2, r) :=
  ⟨h.num l.length f (by simp), h.hd l.length f (by simp)⟩
theorem Run.snoc {a : Nat} {base : By} {l : List Fi} {f : Fi} (h : Run a base l) (hn : f.n = a + l.length) (hr : ∃ rs : List By, f.fr = hdr l.length base :: rs.map fun r => (2, r)) : Run a base (l ++ [f]) := by
  constructor
  all_goals
    intro i g hg
    rw [List.getElem?_append] at hg
    split at hg
  · exact h.num i g hg
  · have : i - l.length = 0 := by have := (List.getElem?_eq_some_iff.1 hg).1; simp at this; omega
    rw [this] at hg
    cases hg
    rw [hn]; omega
  · exact h.hd i g hg
  · have : i - l.length = 0 := by have := (List.getElem?_eq_some_iff.1 hg).1; simp at this; omega
    rw [this] at hg
    cases hg
    have e : i = l.length := by omega
    rw [e]; exact hr
theorem Run.nil (a : Nat) (base : By) : Run a base [] := ⟨fun i f h => by simp at h, fun i f h => by simp at h⟩
theorem recs_app (a b : List Fi) : recs (a ++ b) = recs a ++ recs b := by simp [recs]
theorem recs_one (f : Fi) : recs [f] = rec1 f := by simp [recs]
theorem rec1_of {f : Fi} {h : Nat × By} {rs : List By} (e : f.fr = h :: rs.map fun r => (2, r)) : rec1 f = rs := by
  unfold rec1
  rw [e, List.tail_cons, List.map_map]
  exact List.map_id' rs
theorem rec1_len {f : Fi} (h : 1 ≤ f.fr.length) : (rec1 f).length + 1 = f.fr.length := by
  unfold rec1; rw [List.length_map, List.length_tail]; omega
theorem fi_b {f : Fi} (h : f.p = []) : f.b = cat f.fr := by unfold Fi.b; rw [h, List.append_nil]
structure LDs (nm : By) (fs : List Fl) (base : By) (R : List By) (k N a : Nat) (pre : List Fi) (f : Fi) (i : Nat) : Prop where
  hh : Holds nm fs (pre ++ [f])
  run : Run a base (pre ++ [f])
  sy : ∀ g ∈ pre, g.p = [] ∧ g.s = g.b.length
  pp : f.p = []
  rc : recs (pre ++ [f]) = R
  il : i ≤ f.fr.length
  ss : f.s = (cat (f.fr.take i)).length
  one : pre = [] → 1 ≤ i
  kk : k = (recs pre).length + (i - 1)
  nN : f.n ≤ N
/-- a log's disk: base, records, how many of them last -/
def LD (nm : By) (fs : List Fl) (base : By) (R : List By) (k N : Nat) : Prop := ∃ a pre f i, LDs nm fs base R k N a pre f i
theorem LDs.kle {nm : By} {fs : List Fl} {base : By} {R : List By} {k N a : Nat} {pre : List Fi} {f : Fi} {i : Nat} (h : LDs nm fs base R k N a pre f i) : k ≤ R.length := by
  obtain ⟨_, rs, hr⟩ := h.run.last
  have h1 := rec1_len (f := f) (by rw [hr]; simp)
  have h2 := h.il
  rw [h.kk, ← h.rc, recs_app, recs_one, List.length_append]
  omega
/-- a log: its disk, and what the log itself knows -/
structure Live (nm : By) (x : Wl) (base : By) (R : List By) (k N : Nat) : Prop where
  ld : ∃ a pre f i, LDs nm x.st.fs base R k N a pre f i ∧ x.no = f.n ∧ x.size = f.b.length
  count : x.count = R.length
  dead : x.dead = false
  down : x.st.down = false
/-- what a call may do to the plate: the room, the bytes -/
structure Aft (x : Wl) (r : Nat × Wl) (n : Nat) : Prop where
  room : r.2.st.room = x.st.room
  tot : tot r.2.st.fs ≤ tot x.st.fs + n
  arm : x.st.armed = false → r.2.st.armed = false
theorem Done.aft {x : Wl} {r : Nat × Wl} {fs : List Fl} (h : Done x r fs) {n : Nat} (ht : Pt.tot fs ≤ Pt.tot x.st.fs + n) : Aft x r n := ⟨h.room, by rw [h.fs]; exact ht, h.arm⟩
theorem Lost.aft {x : Wl} {r : Nat × Wl} (h : Lost x r) (n : Nat) : Aft x r n := ⟨h.room, by rw [h.fs]; omega, fun e => by rw [h.arm] at e; cases e⟩
theorem Aft.trans {x y : Wl} {r s : Nat × Wl} {n m : Nat} (h : Aft x r n) (hy : y.st = r.2.st) (g : Aft y s m) : Aft x s (n + m) :=
  ⟨g.room.trans (by rw [hy]; exact h.room), by have h1 := g.tot; have h2 := h.tot; rw [hy] at h1; omega, fun e => g.arm (by rw [hy]; exact h.arm e)⟩
theorem Aft.mono {x : Wl} {r : Nat × Wl} {n m : Nat} (h : Aft x r n) (hm : n ≤ m) : Aft x r m := ⟨h.room, by have := h.tot; omega, h.arm⟩
theorem enc2_len (b : By) (hb : b.length ≤ 60000) (k : Nat) (hk : k < 128) : (enc k b).length ≤ b.length + 12 := by
  have h1 := enc_len k b
  have h2 := rcd_len k b hk hb
  omega
theorem okF_mem {f : Fi} (h : okFi f) {x : Nat × By} (hx : okF x) : ∀ y ∈ f.fr ++ [x], okF y := fun y hy => by
  rcases List.mem_append.1 hy with hy | hy
  · exact h.fr y hy
  · rw [List.mem_singleton] at hy; subst hy; exact hx
theorem cat_one (x : Nat × By) : cat [x] = enc x.1 x.2 := by simp [cat]
/-- a record behind the last file -/
theorem rec_ways (nm : By) (x : Wl) (base b : By) (R : List By) (k N a : Nat) (pre : List Fi) (f : Fi) (i : Nat) (h : LDs nm x.st.fs base R k N a pre f i) (hno : x.no = f.n) (hsz : x.size = f.b.length) (hct : x.count = R.length) (hdd : x.dead = false) (hd : x.st.down = false)
    (ha : Asc x.st.fs) (hn : nm.length ≤ 32) (hb : b.length ≤ 60000) (hr : tot x.st.fs + b.length + 12 ≤ x.st.room) :
    ((recW nm x b).1 = 0 ∧ Live nm (recW nm x b).2 base (R ++ [b]) k N ∨ Lost x (recW nm x b)) ∧ Aft x (recW nm x b) (b.length + 12) := by
  have hf : f ∈ pre ++ [f] := by simp
  have hok := h.hh.ok f hf
  have hgb := h.hh.gB ha hf
  have hel := enc2_len b hb 2 (by decide)
  unfold recW
  rcases app_ways nm x x.no (enc 2 b) hn (by rw [hno]; exact hok.n) hd (by omega) with hdn | hls
  · simp only [hdn.ok, if_true]
    have hfs := hdn.fs
    rw [hno, hgb.1, hgb.2] at hfs
    obtain ⟨f', hf'⟩ : ∃ f' : Fi, f' = ⟨f.n, f.fr ++ [(2, b)], [], f.s⟩ := ⟨_, rfl⟩
    have hfb : f'.b = f.b ++ enc 2 b := by rw [hf']; unfold Fi.b; rw [h.pp, cat_app, cat_one, List.append_nil, List.append_nil]
    have hfl : (⟨fnm nm f.n, f.b ++ enc 2 b, f.s⟩ : Fl) = f'.fl nm := by unfold Fi.fl; rw [hfb]; rw [hf']
    have hok' : okFi f' := ⟨by rw [hf']; exact okF_mem hok (x := (2, b)) ⟨Nat.le_refl _, hb⟩, by rw [hf']; exact part_nil, by rw [hfb]; simp [hok.ne], by rw [hf']; exact hok.n⟩
    rw [hfl] at hfs
    have hno' : f'.n = f.n := by rw [hf']
    have hfr' : f'.fr = f.fr ++ [(2, b)] := by rw [hf']
    have hp' : f'.p = [] := by rw [hf']
    have hs' : f'.s = f.s := by rw [hf']
    clear hf'
    have hH : Holds nm (appW nm x x.no (enc 2 b)).2.st.fs (pre ++ [f']) := by rw [hno, hfs]; exact h.hh.swap (B := []) ha hno' hok'
    obtain ⟨hln, rs, hrs⟩ := h.run.last
    have hrun : Run a base (pre ++ [f']) := h.run.init.snoc (by rw [hno']; exact hln) ⟨rs ++ [b], by rw [hfr', hrs]; simp⟩
    refine ⟨.inl ⟨by simp, ⟨⟨a, pre, f', i, ⟨hH, hrun, h.sy, hp', ?_, ?_, ?_, h.one, h.kk, by rw [hno']; exact h.nN⟩, ?_, ?_⟩, ?_, ?_, hdn.down⟩⟩, ?_⟩
    · rw [recs_app, recs_one, rec1_of (rs := rs ++ [b]) (h := hdr pre.length base) (by rw [hfr', hrs]; simp), ← h.rc, recs_app, recs_one, rec1_of hrs, List.append_assoc]
    · rw [hfr', List.length_append]; have := h.il; omega
    · rw [hs', h.ss, hfr', List.take_append_of_le_length h.il]
    · simp only []; rw [hdn.no, hno, hno']
    · simp only []; rw [hdn.size, hsz, hfb, List.length_append]
    · simp only []; rw [hdn.count, hct, List.length_append]; rfl
    · simp only []; rw [hdn.dead]; exact hdd
    · refine ⟨hdn.room, ?_, hdn.arm⟩
      simp only []
      rw [hdn.fs]
      exact tot_lay_le _ _ _ _ ha _ (by rw [List.length_append]; omega)
  · rw [if_neg (by rw [hls.e]; decide)]
    exact ⟨.inr hls, hls.aft _⟩
/-- Append -/
theorem live_add (nm : By) (most : Nat) (x : Wl) (base b : By) (R : List By) (k N : Nat) (h : Live nm x base R k N) (ha : Asc x.st.fs) (hn : nm.length ≤ 32) (hN : N < 99) (hb : b.length ≤ 60000) (hr : tot x.st.fs + b.length + 24 ≤ x.st.room) :
    ((addW nm most x b).1 = 0 ∧ (∃ k', Live nm (addW nm most x b).2 base (R ++ [b]) k' (N + 1) ∧ k ≤ k' ∧ (k' = k ∨ k' = R.length)) ∨
     (addW nm most x b).1 = 9 ∧ (addW nm most x b).2.st.down = true ∧ (addW nm most x b).2.dead = true ∧ x.st.armed = true ∧ ∃ k', LD nm (addW nm most x b).2.st.fs base R k' (N + 1) ∧ k ≤ k') ∧
    Aft x (addW nm most x b) (b.length + 24) := by
  obtain ⟨⟨a, pre, f, i, hl, hno, hsz⟩, hct, hdd, hd⟩ := h
  unfold addW
  rw [if_neg (by omega), hdd]
  simp only [Bool.false_eq_true, if_false]
  have up : ∀ {fs : List Fl} {R : List By} {k a : Nat} {pre : List Fi} {f : Fi} {i : Nat}, LDs nm fs base R k N a pre f i → LDs nm fs base R k (N + 1) a pre f i := fun h => ⟨h.hh, h.run, h.sy, h.pp, h.rc, h.il, h.ss, h.one, h.kk, Nat.le_succ_of_le h.nN⟩
  by_cases hm : most ≤ x.size
  case neg =>
    rw [if_neg hm]
    obtain ⟨h1, h2⟩ := rec_ways nm x base b R k N a pre f i hl hno hsz hct hdd hd ha hn hb (by omega)
    refine ⟨?_, h2.mono (by omega)⟩
    rcases h1 with ⟨h1, h3⟩ | h1
    · obtain ⟨⟨a', pre', f', i', h4, h5⟩, h6, h7, h8⟩ := h3
      exact .inl ⟨h1, k, ⟨⟨a', pre', f', i', up h4, h5⟩, h6, h7, h8⟩, Nat.le_refl _, .inl rfl⟩
    · exact .inr ⟨h1.e, h1.down, h1.dead, h1.arm, k, ⟨a, pre, f, i, by rw [h1.fs]; exact up hl⟩, Nat.le_refl _⟩
  case pos =>
    rw [if_pos hm]
    have hf : f ∈ pre ++ [f] := by simp
    have hok := hl.hh.ok f hf
    have hgb := hl.hh.gB ha hf
    rcases syn_ways nm x x.no hn (by rw [hno]; exact hok.n) hd with hdn | hls
    case inr =>
      rw [if_neg (by rw [hls.e]; decide)]
      exact ⟨.inr ⟨hls.e, hls.down, hls.dead, hls.arm, k, ⟨a, pre, f, i, by rw [hls.fs]; exact up hl⟩, Nat.le_refl _⟩, hls.aft _⟩
    case inl =>
      rw [if_pos hdn.ok]
      have hfs := hdn.fs
      rw [hno, hgb.1] at hfs
      obtain ⟨f', hf'⟩ : ∃ f' : Fi, f' = ⟨f.n, f.fr, [], f.b.length⟩ := ⟨_, rfl⟩
      have hfb : f'.b = f.b := by rw [hf']; unfold Fi.b; rw [hl.pp]
      have hfl : (⟨fnm nm f.n, f.b, f.b.length⟩ : Fl) = f'.fl nm := by unfold Fi.fl; rw [hfb]; rw [hf']
      rw [hfl] at hfs
      have hno' : f'.n = f.n := by rw [hf']
      have hfr' : f'.fr = f.fr := by rw [hf']
      have hp' : f'.p = [] := by rw [hf']
      have hs' : f'.s = f'.b.length := by rw [hfb, hf']
      have hok' : okFi f' := ⟨by rw [hfr']; exact hok.fr, by rw [hp']; exact part_nil, by rw [hfb]; exact hok.ne, by rw [hno']; exact hok.n⟩
      clear hf'
      obtain ⟨r, hr0⟩ : ∃ r, r = synW nm x x.no := ⟨_, rfl⟩
      rw [← hr0] at hdn ⊢
      rw [← hno, ← hr0] at hfs
      have hH : Holds nm r.2.st.fs (pre ++ [f']) := by rw [hfs]; exact hl.hh.swap (B := []) ha hno' hok'
      have hasc : Asc r.2.st.fs := by rw [hfs]; exact asc_lay _ _ ha
      obtain ⟨hln, rs, hrs⟩ := hl.run.last
      have hrun : Run a base (pre ++ [f']) := hl.run.init.snoc (by rw [hno']; exact hln) ⟨rs, by rw [hfr', hrs]⟩
      have hrc' : recs (pre ++ [f']) = R := by rw [← hl.rc, recs_app, recs_app, recs_one, recs_one]; unfold rec1; rw [hfr']
      have hpre' : ∀ g ∈ pre ++ [f'], g.p = [] ∧ g.s = g.b.length := fun g hg => by
        rcases List.mem_append.1 hg with hg | hg
        · exact hl.sy g hg
        · rw [List.mem_singleton] at hg; subst hg; exact ⟨hp', hs'⟩
      have hk0 := hl.kle
      have hA1 : Aft x r 0 := hdn.aft (by rw [← hdn.fs, hfs]; unfold Fi.fl; rw [hno', hfb]; exact tot_lay_le _ _ _ _ ha 0 (by rw [hgb.1]; omega))
      have hfl1 : 1 ≤ f'.fr.length := by rw [hfr', hrs]; simp
      have hfull : LDs nm r.2.st.fs base R R.length (N + 1) a pre f' f'.fr.length := by
        refine ⟨hH, hrun, hl.sy, hp', hrc', Nat.le_refl _, ?_, fun _ => hfl1, ?_, by rw [hno']; exact Nat.le_succ_of_le hl.nN⟩
        · rw [hs', fi_b hp', List.take_length]
        · rw [← hrc', recs_app, recs_one, List.length_append]
          have := rec1_len hfl1
          omega
      have h10 : (enc 1 []).length = 10 := by rw [enc_len]; unfold rcd; rw [uv_lt (by decide : (1 : Nat) < 128), show ([] : By).length = 0 from rfl, uv_lt (by decide : (0 : Nat) < 128)]; rfl
      rcases app_ways nm r.2 (x.no + 1) (enc 1 []) hn (by have := hl.nN; omega) hdn.down (by have := hA1.tot; rw [hdn.room, h10]; omega) with hdn2 | hls2
      case inr =>
        rw [if_neg (by rw [hls2.e]; decide)]
        refine ⟨.inr ⟨hls2.e, hls2.down, hls2.dead, ?_, R.length, ⟨a, pre, f', _, by rw [hls2.fs]; exact hfull⟩, hk0⟩, (hA1.trans rfl (hls2.aft 0)).mono (by omega)⟩
        have := hls2.arm
        cases e : x.st.armed
        · rw [hdn.arm e] at this; cases this
        · rfl
      case inl =>
        rw [if_pos hdn2.ok]
        obtain ⟨g, hg⟩ : ∃ g : Fi, g = ⟨f.n + 1, [(1, [])], [], 0⟩ := ⟨_, rfl⟩
        have hgn : g.n = f'.n + 1 := by rw [hg, hno']
        have hgb' : g.b = enc 1 [] := by rw [hg]; unfold Fi.b; rw [cat_one, List.append_nil]
        have hgf : g.fr = [(1, [])] := by rw [hg]
        have hgp : g.p = [] := by rw [hg]
        have hgs : g.s = 0 := by rw [hg]
        have hgok : okFi g := ⟨fun y hy => by rw [hgf, List.mem_singleton] at hy; subst hy; exact ⟨by decide, by decide⟩, by rw [hgp]; exact part_nil, by rw [hgb']; exact enc_ne _ _, by rw [hgn, hno']; have := hl.nN; omega⟩
        clear hg
        have hlt : ∀ e ∈ pre ++ [f'], e.n < g.n := fun e he => by
          rcases List.mem_append.1 he with he | he
          · have := (List.pairwise_append.1 hH.asc).2.2 e he f' List.mem_cons_self; omega
          · rw [List.mem_singleton] at he; subst he; omega
        have hnone := hH.none (k := x.no + 1) (by have := hl.nN; omega) (fun e he => by have := hlt e he; omega)
        have hfs2 := hdn2.fs
        have hgl : (⟨fnm nm (x.no + 1), Pt.gB r.2.st.fs (fnm nm (x.no + 1)) ++ enc 1 [], gS r.2.st.fs (fnm nm (x.no + 1))⟩ : Fl) = g.fl nm := by
          unfold Pt.gB gS Fi.fl
          rw [hnone, hgb', hgn, hno', hno, hgs]; rfl
        rw [hgl] at hfs2
        obtain ⟨r2, hr2⟩ : ∃ r2, r2 = appW nm r.2 (x.no + 1) (enc 1 []) := ⟨_, rfl⟩
        rw [← hr2] at hdn2 hfs2 ⊢
        have hH2 : Holds nm r2.2.st.fs (pre ++ [f'] ++ [g]) := by rw [hfs2]; exact hH.snoc hasc hlt hgok
        have hasc2 : Asc r2.2.st.fs := by rw [hfs2]; exact asc_lay _ _ hasc
        have hA2 : Aft r.2 r2 10 := hdn2.aft (by rw [← hdn2.fs, hfs2, ← hgl]; exact tot_lay_le _ _ _ _ hasc 10 (by rw [List.length_append, h10]; omega))
        have hrun2 : Run a base (pre ++ [f'] ++ [g]) := hrun.snoc (by rw [hgn, hno', hln, List.length_append]; rfl) ⟨[], by rw [hgf]; unfold hdr; rw [if_neg (by simp)]; rfl⟩
        have hL2 : LDs nm r2.2.st.fs base R R.length (N + 1) a (pre ++ [f']) g 0 := by
          refine ⟨hH2, hrun2, hpre', hgp, ?_, Nat.zero_le _, by rw [hgs]; rfl, fun e => by simp at e, by rw [hrc']; rfl, by rw [hgn, hno']; have := hl.nN; omega⟩
          rw [recs_app, recs_one, hrc']; unfold rec1; rw [hgf]; simp
        have hA : Aft x r2 10 := by simpa using hA1.trans rfl hA2
        obtain ⟨h1, h2⟩ := rec_ways nm { r2.2 with no := x.no + 1, size := (enc 1 []).length } base b R R.length (N + 1) a (pre ++ [f']) g 0 hL2 (by show x.no + 1 = _; rw [hgn, hno', hno]) (by show (enc 1 []).length = _; rw [hgb']) (by show r2.2.count = _; rw [hdn2.count, hdn.count]; exact hct) (by show r2.2.dead = false; rw [hdn2.dead, hdn.dead]; exact hdd) hdn2.down hasc2 hn hb (by show tot r2.2.st.fs + _ + _ ≤ r2.2.st.room; have := hA.tot; rw [hA.room]; omega)
        refine ⟨?_, (Aft.trans (y := { r2.2 with no := x.no + 1, size := (enc 1 []).length }) hA rfl h2).mono (by omega)⟩
        rcases h1 with ⟨h1, h3⟩ | h1
        · exact .inl ⟨h1, R.length, h3, hk0, .inr rfl⟩
        · refine .inr ⟨h1.e, h1.down, h1.dead, ?_, R.length, ⟨a, _, g, 0, by rw [h1.fs]; exact hL2⟩, hk0⟩
          have := h1.arm
          cases e : x.st.armed
          · rw [show r2.2.st.armed = false from hA.arm e] at this; cases this
          · rfl
/-- Sync -/
theorem live_last (nm : By) (x : Wl) (base : By) (R : List By) (k N : Nat) (h : Live nm x base R k N) (ha : Asc x.st.fs) (hn : nm.length ≤ 32) :
    ((lastW nm x).1 = 0 ∧ Live nm (lastW nm x).2 base R R.length N ∨ (lastW nm x).1 = 9 ∧ (lastW nm x).2.st.down = true ∧ (lastW nm x).2.dead = true ∧ x.st.armed = true ∧ LD nm (lastW nm x).2.st.fs base R k N) ∧ Aft x (lastW nm x) 0 := by
  obtain ⟨⟨a, pre, f, i, hl, hno, hsz⟩, hct, hdd, hd⟩ := h
  have hf : f ∈ pre ++ [f] := by simp
  have hok := hl.hh.ok f hf
  have hgb := hl.hh.gB ha hf
  unfold lastW
  rw [hdd]
  simp only [Bool.false_eq_true, if_false]
  rcases syn_ways nm x x.no hn (by rw [hno]; exact hok.n) hd with hdn | hls
  case inr => exact ⟨.inr ⟨hls.e, hls.down, hls.dead, hls.arm, a, pre, f, i, by rw [hls.fs]; exact hl⟩, hls.aft _⟩
  case inl =>
    have hfs := hdn.fs
    rw [hno, hgb.1] at hfs
    obtain ⟨f', hf'⟩ : ∃ f' : Fi, f' = ⟨f.n, f.fr, [], f.b.length⟩ := ⟨_, rfl⟩
    have hfb : f'.b = f.b := by rw [hf']; unfold Fi.b; rw [hl.pp]
    have hfl : (⟨fnm nm f.n, f.b, f.b.length⟩ : Fl) = f'.fl nm := by unfold Fi.fl; rw [hfb]; rw [hf']
    rw [hfl, ← hno] at hfs
    have hno' : f'.n = f.n := by rw [hf']
    have hfr' : f'.fr = f.fr := by rw [hf']
    have hp' : f'.p = [] := by rw [hf']
    have hs' : f'.s = f'.b.length := by rw [hfb, hf']
    have hok' : okFi f' := ⟨by rw [hfr']; exact hok.fr, by rw [hp']; exact part_nil, by rw [hfb]; exact hok.ne, by rw [hno']; exact hok.n⟩
    clear hf'
    obtain ⟨r, hr0⟩ : ∃ r, r = synW nm x x.no := ⟨_, rfl⟩
    rw [← hr0] at hdn hfs ⊢
    have hH : Holds nm r.2.st.fs (pre ++ [f']) := by rw [hfs]; exact hl.hh.swap (B := []) ha hno' hok'
    obtain ⟨hln, rs, hrs⟩ := hl.run.last
    have hrun : Run a base (pre ++ [f']) := hl.run.init.snoc (by rw [hno']; exact hln) ⟨rs, by rw [hfr', hrs]⟩
    have hrc' : recs (pre ++ [f']) = R := by rw [← hl.rc, recs_app, recs_app, recs_one, recs_one]; unfold rec1; rw [hfr']
    have hfl1 : 1 ≤ f'.fr.length := by rw [hfr', hrs]; simp
    refine ⟨.inl ⟨hdn.ok, ⟨⟨a, pre, f', f'.fr.length, ⟨hH, hrun, hl.sy, hp', hrc', Nat.le_refl _, ?_, fun _ => hfl1, ?_, by rw [hno']; exact hl.nN⟩, ?_, ?_⟩, ?_, ?_, hdn.down⟩⟩, ?_⟩
    · rw [hs', fi_b hp', List.take_length]
    · rw [← hrc', recs_app, recs_one, List.length_append]
      have := rec1_len hfl1
      omega
    · rw [hdn.no, hno, hno']
    · rw [hdn.size, hsz, hfb]
    · rw [hdn.count]; exact hct
    · rw [hdn.dead]; exact hdd
    · exact hdn.aft (by rw [← hdn.fs, hfs]; unfold Fi.fl; rw [hno', hfb]; exact tot_lay_le _ _ _ _ ha 0 (by rw [hgb.1]; omega))
/-- files of a log that a checkpoint's new base stands behind -/
def CD (nm : By) (fs : List Fl) (base : By) (R : List By) (k : Nat) (base' : By) (N : Nat) : Prop :=
  ∃ old c, Holds nm fs (old ++ [c]) ∧ c.fr = [(0, base')] ∧ c.p = [] ∧ c.n ≤ N ∧ (∀ g ∈ old, g.p = []) ∧ (c.s = c.b.length ∨ c.s = 0 ∧ ∃ a pre f i fs0, old = pre ++ [f] ∧ LDs nm fs0 base R k N a pre f i)
theorem filter_own {ds : List Fi} {c : Fi} (h : (ds ++ [c]).Pairwise (fun f g => f.n < g.n)) : ((ds ++ [c]).map Fi.n).filter (fun k => !(k == c.n)) = ds.map Fi.n := by
  rw [List.map_append, List.filter_append, List.filter_eq_self.2 (fun k hk => ?_)]
  · simp
  · obtain ⟨g, hg, rfl⟩ := List.mem_map.1 hk
    have := (List.pairwise_append.1 h).2.2 g hg c List.mem_cons_self
    simp; omega
/-- begin, behind whatever files -/
theorem beg_ways (nm : By) (x : Wl) (base : By) (n N : Nat) (ds : List Fi) (h : Holds nm x.st.fs ds) (hp : ∀ g ∈ ds, g.p = []) (hlt : ∀ g ∈ ds, g.n < n) (hd : x.st.down = false) (hdd : x.dead = false) (ha : Asc x.st.fs) (hn : nm.length ≤ 32) (hnN : n ≤ N) (hN : N ≤ 99) (hb : base.length ≤ 60000) (hr : tot x.st.fs + base.length + 12 ≤ x.st.room) :
    ∃ c : Fi, c.n = n ∧ c.fr = [(0, base)] ∧ c.p = [] ∧
    (∀ r, r = appW nm x n (enc 0 base) → r.1 = 0 → ∀ r2, r2 = synW nm r.2 n → r2.1 = 0 → Named nm r2.2.st.fs ((ds ++ [c]).map Fi.n)) ∧
    ((begW nm x n base ((ds ++ [c]).map Fi.n)).1 = 0 ∧ Live nm (begW nm x n base ((ds ++ [c]).map Fi.n)).2 base [] 0 N ∨
     (begW nm x n base ((ds ++ [c]).map Fi.n)).1 = 9 ∧ (begW nm x n base ((ds ++ [c]).map Fi.n)).2.st.down = true ∧ (begW nm x n base ((ds ++ [c]).map Fi.n)).2.dead = true ∧ x.st.armed = true ∧
       ((begW nm x n base ((ds ++ [c]).map Fi.n)).2.st.fs = x.st.fs ∨ (∃ c' : Fi, c'.n = n ∧ c'.fr = [(0, base)] ∧ c'.p = [] ∧ c'.s = 0 ∧ Holds nm (begW nm x n base ((ds ++ [c]).map Fi.n)).2.st.fs (ds ++ [c'])) ∨
         ∃ (c' : Fi) (old : List Fi), c'.n = n ∧ c'.fr = [(0, base)] ∧ c'.p = [] ∧ c'.s = c'.b.length ∧ (∀ g ∈ old, g.p = []) ∧ Holds nm (begW nm x n base ((ds ++ [c]).map Fi.n)).2.st.fs (old ++ [c']))) ∧
    Aft x (begW nm x n base ((ds ++ [c]).map Fi.n)) (base.length + 12) := by
  have hel := enc2_len base hb 0 (by decide)
  have mk : ∀ s, ∃ c : Fi, c.n = n ∧ c.fr = [(0, base)] ∧ c.p = [] ∧ c.s = s ∧ c.b = enc 0 base ∧ okFi c := fun s => by
    refine ⟨⟨n, [(0, base)], [], s⟩, rfl, rfl, rfl, rfl, by unfold Fi.b; rw [cat_one, List.append_nil], ⟨fun y hy => ?_, part_nil, ?_, by show n ≤ _; omega⟩⟩
    · rw [List.mem_singleton] at hy; subst hy; exact ⟨Nat.zero_le _, hb⟩
    · unfold Fi.b; rw [cat_one, List.append_nil]; exact enc_ne _ _
  obtain ⟨c0, h01, h02, h03, h04, h05, h06⟩ := mk 0
  obtain ⟨c, hc1, hc2, hc3, hc4, hc5, hc6⟩ := mk (enc 0 base).length
  have hnone := h.none (k := n) (by omega) (fun e he => by have := hlt e he; omega)
  have e0 : (⟨fnm nm n, Pt.gB x.st.fs (fnm nm n) ++ enc 0 base, gS x.st.fs (fnm nm n)⟩ : Fl) = c0.fl nm := by
    unfold Pt.gB gS Fi.fl
    rw [hnone, h01, h05, h04]; rfl
  have hl0 : ∀ g ∈ ds, g.n < c0.n := fun g hg => by rw [h01]; exact hlt g hg
  have hnm : ((ds ++ [c]).map Fi.n).filter (fun k => !(k == n)) = ds.map Fi.n := by
    have := filter_own (ds := ds) (c := c) (by rw [List.pairwise_append]; exact ⟨h.asc, List.pairwise_singleton _ _, fun a h2 b hb => by rw [List.mem_singleton] at hb; subst hb; rw [hc1]; exact hlt a h2⟩)
    rw [hc1] at this; exact this
  refine ⟨c, hc1, hc2, hc3, ?_⟩
  unfold begW
  rw [hnm]
  rcases app_ways nm x n (enc 0 base) hn (by omega) hd (by omega) with hdn | hls
  case inr =>
    refine ⟨fun r hr h0 => ?_, ?_⟩
    · rw [hr, hls.e] at h0; cases h0
    simp only [hls.e]
    rw [if_neg (by decide)]
    exact ⟨.inr ⟨hls.e, hls.down, hls.dead, hls.arm, .inl hls.fs⟩, hls.aft _⟩
  case inl =>
    have hfs := hdn.fs
    rw [e0] at hfs
    obtain ⟨r, hr0⟩ : ∃ r, r = appW nm x n (enc 0 base) := ⟨_, rfl⟩
    rw [← hr0] at hdn hfs ⊢
    simp only [hdn.ok, if_true]
    have hH : Holds nm r.2.st.fs (ds ++ [c0]) := by rw [hfs]; exact h.snoc ha hl0 h06
    have hasc : Asc r.2.st.fs := by rw [hfs]; exact asc_lay _ _ ha
    have hA1 : Aft x r (base.length + 12) := hdn.aft (by rw [← hdn.fs, hfs, ← e0]; exact tot_lay_le _ _ _ _ ha _ (by rw [List.length_append]; omega))
    have hgb := hH.gB hasc (f := c0) (by simp)
    rw [h01, h05] at hgb
    rcases syn_ways nm r.2 n hn (by omega) hdn.down with hdn2 | hls2
    case inr =>
      refine ⟨fun q hq h0 q2 hq2 h02' => ?_, ?_⟩
      · subst hq; rw [hq2, hls2.e] at h02'; cases h02'
      simp only [hls2.e]
      rw [if_neg (by decide)]
      refine ⟨.inr ⟨hls2.e, hls2.down, hls2.dead, ?_, .inr (.inl ⟨c0, h01, h02, h03, h04, by rw [hls2.fs]; exact hH⟩)⟩, (hA1.trans rfl (hls2.aft 0)).mono (by omega)⟩
      have := hls2.arm
      cases e : x.st.armed
      · rw [hdn.arm e] at this; cases this
      · rfl
    case inl =>
      have hfs2 := hdn2.fs
      rw [hgb.1] at hfs2
      have e1 : (⟨fnm nm n, enc 0 base, (enc 0 base).length⟩ : Fl) = c.fl nm := by unfold Fi.fl; rw [hc1, hc5, hc4]
      rw [e1] at hfs2
      obtain ⟨r2, hr2⟩ : ∃ r2, r2 = synW nm r.2 n := ⟨_, rfl⟩
      rw [← hr2] at hdn2 hfs2 ⊢
      simp only [hdn2.ok, if_true]
      have hH2 : Holds nm r2.2.st.fs (ds ++ [c]) := by rw [hfs2]; exact hH.swap (A := ds) (B := []) hasc (by rw [hc1, h01]) hc6
      have hasc2 : Asc r2.2.st.fs := by rw [hfs2]; exact asc_lay _ _ hasc
      have hA2 : Aft r.2 r2 0 := hdn2.aft (by rw [← hdn2.fs, hfs2, ← e1]; exact tot_lay_le _ _ _ _ hasc 0 (by rw [hgb.1]; omega))
      have hA : Aft x r2 (base.length + 12) := by simpa using hA1.trans rfl hA2
      refine ⟨fun q hq h0 q2 hq2 h02' => ?_, ?_⟩
      · subst hq2; rw [hq, ← hr2]; exact hH2.named
      obtain ⟨y, hy⟩ : ∃ y : Wl, y = { r2.2 with no := n, size := (enc 0 base).length, count := 0 } := ⟨_, rfl⟩
      have hyst : y.st = r2.2.st := by rw [hy]
      obtain ⟨h1, h2, h3, h4⟩ := drops_ways nm hn (ds.map Fi.n) y (ds ++ [c]) (by rw [hyst]; exact hH2) (by rw [hyst]; exact hasc2) (fun k hk => by obtain ⟨g, hg, rfl⟩ := List.mem_map.1 hk; exact (h.ok g hg).n) (by rw [hyst]; exact hdn2.down)
      have hdead : y.dead = false := by rw [hy]; show r2.2.dead = false; rw [hdn2.dead, hdn.dead]; exact hdd
      have hyno : y.no = n ∧ y.size = (enc 0 base).length ∧ y.count = 0 := by rw [hy]; exact ⟨rfl, rfl, rfl⟩
      rw [← hy]
      obtain ⟨r3, hr3⟩ : ∃ r3, r3 = cutsW nm y ((ds.map Fi.n).map fun k => (k, 0)) := ⟨_, rfl⟩
      rw [← hr3] at h1 h2 h3 ⊢
      rcases h1 with ⟨h1, h5⟩ | ⟨h1, h5, h6, h7, h8, l', h9, h10⟩
      · have hone : (ds ++ [c]).filter (fun f => !(ds.map Fi.n).contains f.n) = [c] := by
          rw [List.filter_append, List.filter_eq_nil_iff.2 (fun g hg => ?_), List.nil_append]
          · have : ¬ c.n ∈ ds.map Fi.n := fun hm => by
              obtain ⟨g, hg, e⟩ := List.mem_map.1 hm
              have := hlt g hg
              omega
            simp only [List.filter_cons, List.filter_nil]
            rw [if_pos (by simpa using this)]
          · have : g.n ∈ ds.map Fi.n := List.mem_map_of_mem hg
            simpa using this
        rw [hone] at h5
        refine ⟨.inl ⟨h1.ok, ⟨⟨n, [], c, 1, ⟨h5, (Run.nil n base).snoc (by rw [hc1]; rfl) ⟨[], by rw [hc2]; rfl⟩, fun g hg => (by cases hg), hc3, ?_, by rw [hc2]; exact Nat.le_refl _, ?_, fun _ => Nat.le_refl _, rfl, by rw [hc1]; exact hnN⟩, ?_, ?_⟩, ?_, ?_, h1.down⟩⟩, ?_⟩
        · rw [List.nil_append, recs_one]; unfold rec1; rw [hc2]; rfl
        · rw [hc4, hc2, ← hc5, fi_b hc3, hc2]; rfl
        · rw [h1.no, hc1]; exact hyno.1
        · rw [h1.size, hc5]; exact hyno.2.1
        · rw [h1.count]; exact hyno.2.2
        · rw [h1.dead]; exact hdead
        · exact ⟨h1.room.trans (by rw [hyst]; exact hA.room), by have := hA.tot; rw [hyst] at h3; omega, fun e => h1.arm (by rw [hyst]; exact hA.arm e)⟩
      · have harm : x.st.armed = true := by
          cases e : x.st.armed
          · rw [hyst, hA.arm e] at h8; cases h8
          · rfl
        refine ⟨.inr ⟨h1, h5, h6, harm, .inr (.inr ⟨c, ds.filter (fun f => !l'.contains f.n), hc1, hc2, hc3, by rw [hc4, hc5], fun g hg => hp g (List.mem_filter.1 hg).1, ?_⟩)⟩, ⟨h7.trans (by rw [hyst]; exact hA.room), by have := hA.tot; rw [hyst] at h3; omega, fun e => by rw [e] at harm; cases harm⟩⟩
        rw [List.filter_append] at h10
        have : ¬ c.n ∈ l' := fun hm => by
          obtain ⟨g, hg, e⟩ := List.mem_map.1 (h9 _ hm)
          have := hlt g hg
          omega
        rw [show [c].filter (fun f => !l'.contains f.n) = [c] by simp only [List.filter_cons, List.filter_nil]; rw [if_pos (by simpa using this)]] at h10
        exact h10
end Go.Proofs.YthofbblgoamipaaGreatDoor.Wa
