/-
  Chapter 12: each call of the log, its memory and what it says together.
-/
import Derived.Test.YthofbblgoamipaaGreatDoorT2
import Derived.Test.YthofbblgoamipaaGreatDoorVx
namespace Go.Proofs.YthofbblgoamipaaGreatDoor.Wa
open Go.RowKit Pt
set_option linter.unusedVariables false
set_option linter.unusedSimpArgs false
set_option maxRecDepth 100000

/-- a log at work, in memory: base, records, how many last; T: the plate's bytes, rm: its room -/
structure LX (Y : Nat → Prop) (W : World) (g q m : Nat) (nm : By) (most : Nat) (x : Wl) (base : By) (R : List By) (k N T rm : Nat) : Prop where
  wa : WA Y W g q m nm most x
  lv : Live nm x base R k N
  tt : tot x.st.fs ≤ T
  rm : x.st.room = rm
theorem LX.no {Y : Nat → Prop} {W : World} {g q m : Nat} {nm : By} {most : Nat} {x : Wl} {base : By} {R : List By} {k N T rm : Nat} (h : LX Y W g q m nm most x base R k N T rm) : x.no ≤ N ∧ x.size ≤ 268435456 ∧ k ≤ R.length ∧ (∀ b ∈ R, b.length ≤ 60000) ∧ base.length ≤ 60000 := by
  obtain ⟨a, pre, f, i, hl, hno, hsz⟩ := h.lv.ld
  have hf : f ∈ pre ++ [f] := by simp
  have hgb := hl.hh.gB h.wa.py.fit.asc hf
  have h1 := tot_lay ⟨fnm nm f.n, [], 0⟩ x.st.fs h.wa.py.fit.asc
  simp only [List.length_nil, Nat.add_zero] at h1
  rw [hgb.1] at h1
  have h2 := h.wa.py.fit.room
  have h3 := h.wa.py.fit.tot
  refine ⟨by rw [hno]; exact hl.nN, by omega, hl.kle, fun b hb => ?_, ?_⟩
  · rw [← hl.rc] at hb
    unfold recs at hb
    obtain ⟨l, hl1, hb2⟩ := List.mem_flatten.1 hb
    obtain ⟨g, hg, rfl⟩ := List.mem_map.1 hl1
    unfold rec1 at hb2
    obtain ⟨x2, hx2, rfl⟩ := List.mem_map.1 hb2
    exact ((hl.hh.ok g hg).fr x2 (List.mem_of_mem_tail hx2)).2
  · obtain ⟨g0, hg0⟩ : ∃ g0, (pre ++ [f])[0]? = some g0 := ⟨_, List.getElem?_eq_getElem (by simp)⟩
    obtain ⟨rs, e⟩ := hl.run.hd 0 g0 hg0
    exact ((hl.hh.ok g0 (List.mem_of_getElem? hg0)).fr (0, base) (by rw [e]; exact List.mem_cons_self)).2
theorem LD.up {nm : By} {fs : List Fl} {base : By} {R : List By} {k N M : Nat} (h : LD nm fs base R k N) (hM : N ≤ M) : LD nm fs base R k M := by
  obtain ⟨a, pre, f, i, h⟩ := h
  exact ⟨a, pre, f, i, h.hh, h.run, h.sy, h.pp, h.rc, h.il, h.ss, h.one, h.kk, Nat.le_trans h.nN hM⟩
theorem Live.up {nm : By} {x : Wl} {base : By} {R : List By} {k N M : Nat} (h : Live nm x base R k N) (hM : N ≤ M) : Live nm x base R k M := by
  obtain ⟨⟨a, pre, f, i, h, h2⟩, h3, h4, h5⟩ := h
  exact ⟨⟨a, pre, f, i, ⟨h.hh, h.run, h.sy, h.pp, h.rc, h.il, h.ss, h.one, h.kk, Nat.le_trans h.nN hM⟩, h2⟩, h3, h4, h5⟩
theorem Live.disk {nm : By} {x : Wl} {base : By} {R : List By} {k N : Nat} (h : Live nm x base R k N) : LD nm x.st.fs base R k N := by
  obtain ⟨⟨a, pre, f, i, h, _⟩, _⟩ := h
  exact ⟨a, pre, f, i, h⟩
theorem Disk.up {nm : By} {fs : List Fl} {base : By} {R : List By} {N M : Nat} (h : Disk nm fs base R N) (hM : N ≤ M) : Disk nm fs base R M := by
  obtain ⟨a, old, pre, f, jk, h⟩ := h
  exact ⟨a, old, pre, f, jk, h.hh, h.run, h.sy, h.jf, h.rc, fun g hg => Nat.le_trans (h.nN g hg) hM⟩
theorem add_lx {Y : Nat → Prop} {g q m : Nat} {nm : By} {most : Nat} {x : Wl} {base : By} {R : List By} {k N T rm : Nat} (b : By) (bv : Value) (w : World) (h : LX Y w g q m nm most x base R k N T rm) (hn : nm.length ≤ 32) (hN : N < 99) (hb : b.length ≤ 60000)
    (hrd : Rd w 1 bv b.length (Lib.byteCells b)) (hbY : 0 < b.length → ∀ k, bv.ownBlock = some k → Y k) (hm : most ≤ 1000000000) (hR : R.length ≤ 1000000) (hT : T + b.length + 24 ≤ rm) :
    Calls Tryz.prog 12 #[.pointer (some ⟨g, 0, none⟩), bv] w fun e w' => Kp Y w w' ∧ ∃ r : Nat × Wl, e = .returned (.int .i64 (r.1 : Int)) ∧ WA Y w' g q m nm most r.2 ∧ tot r.2.st.fs ≤ T + b.length + 24 ∧ r.2.st.room = rm ∧ (x.st.armed = false → r.2.st.armed = false) ∧
      (r.1 = 0 ∧ (∃ k', Live nm r.2 base (R ++ [b]) k' (N + 1) ∧ k ≤ k' ∧ (k' = k ∨ k' = R.length)) ∨ r.1 = 9 ∧ r.2.st.down = true ∧ r.2.dead = true ∧ x.st.armed = true ∧ ∃ k', LD nm r.2.st.fs base R k' (N + 1) ∧ k ≤ k') := by
  have hno := h.no
  refine (add_any g q m nm most x b bv w h.wa hn (by omega) hrd hbY (by omega) hm ⟨by omega, by rw [h.lv.count]; omega⟩).mono ?_
  rintro e w' ⟨rfl, h1, h2⟩
  obtain ⟨h3, h4⟩ := live_add nm most x base b R k N h.lv h.wa.py.fit.asc hn hN hb (by have := h.tt; have := h.rm; omega)
  exact ⟨h2, _, rfl, h1, by have := h4.tot; have := h.tt; omega, h4.room.trans h.rm, h4.arm, h3⟩
theorem add_long {Y : Nat → Prop} {g q m : Nat} {nm : By} {most : Nat} {x : Wl} {base : By} {R : List By} {k N T rm : Nat} (b : By) (bv : Value) (w : World) (h : LX Y w g q m nm most x base R k N T rm) (hn : nm.length ≤ 32) (hN : N < 99) (hb : 60000 < b.length) (hb2 : b.length ≤ 140737488355000)
    (hrd : Rd w 1 bv b.length (Lib.byteCells b)) (hbY : 0 < b.length → ∀ k, bv.ownBlock = some k → Y k) (hm : most ≤ 1000000000) (hR : R.length ≤ 1000000) :
    Calls Tryz.prog 12 #[.pointer (some ⟨g, 0, none⟩), bv] w fun e w' => Kp Y w w' ∧ e = .returned (.int .i64 2) ∧ LX Y w' g q m nm most x base R k N T rm := by
  have hno := h.no
  refine (add_any g q m nm most x b bv w h.wa hn (by omega) hrd hbY hb2 hm ⟨by omega, by rw [h.lv.count]; omega⟩).mono ?_
  have e0 : addW nm most x b = (2, x) := by unfold addW; rw [if_pos hb]
  rw [e0]
  rintro e w' ⟨rfl, h1, h2⟩
  exact ⟨h2, rfl, h1, h.lv, h.tt, h.rm⟩
theorem sync_lx {Y : Nat → Prop} {g q m : Nat} {nm : By} {most : Nat} {x : Wl} {base : By} {R : List By} {k N T rm : Nat} (w : World) (h : LX Y w g q m nm most x base R k N T rm) (hn : nm.length ≤ 32) (hN : N ≤ 99) :
    Calls Tryz.prog 13 #[.pointer (some ⟨g, 0, none⟩)] w fun e w' => Kp Y w w' ∧ ∃ r : Nat × Wl, e = .returned (.int .i64 (r.1 : Int)) ∧ WA Y w' g q m nm most r.2 ∧ tot r.2.st.fs ≤ T ∧ r.2.st.room = rm ∧ (x.st.armed = false → r.2.st.armed = false) ∧
      (r.1 = 0 ∧ Live nm r.2 base R R.length N ∨ r.1 = 9 ∧ r.2.st.down = true ∧ r.2.dead = true ∧ x.st.armed = true ∧ LD nm r.2.st.fs base R k N) := by
  have hno := h.no
  refine (sync_any g q m nm most x w h.wa hn (by omega)).mono ?_
  rintro e w' ⟨rfl, h1, h2⟩
  obtain ⟨h3, h4⟩ := live_last nm x base R k N h.lv h.wa.py.fit.asc hn
  exact ⟨h2, _, rfl, h1, by have := h4.tot; have := h.tt; omega, h4.room.trans h.rm, h4.arm, h3⟩
theorem live_chk (nm : By) (x : Wl) (base b : By) (R : List By) (k N : Nat) (h : Live nm x base R k N) (ha : Asc x.st.fs) (hn : nm.length ≤ 32) (hN : N < 99) (hb : b.length ≤ 60000) (hr : tot x.st.fs + b.length + 12 ≤ x.st.room) :
    ∃ l, (x.dead = false → b.length ≤ 60000 → ∀ r, r = appW nm x (x.no + 1) (enc 0 b) → r.1 = 0 → ∀ r2, r2 = synW nm r.2 (x.no + 1) → r2.1 = 0 → Named nm r2.2.st.fs l) ∧
      ((chkW nm x b l).1 = 0 ∧ Live nm (chkW nm x b l).2 b [] 0 (N + 1) ∨ (chkW nm x b l).1 = 9 ∧ (chkW nm x b l).2.st.down = true ∧ (chkW nm x b l).2.dead = true ∧ x.st.armed = true ∧ (LD nm (chkW nm x b l).2.st.fs base R k (N + 1) ∨ CD nm (chkW nm x b l).2.st.fs base R k b (N + 1))) ∧
      Aft x (chkW nm x b l) (b.length + 12) := by
  obtain ⟨⟨a, pre, f, i, hl, hno, hsz⟩, hct, hdd, hd⟩ := h
  have hpp : ∀ g ∈ pre ++ [f], g.p = [] := fun g hg => by
    rcases List.mem_append.1 hg with hg | hg
    · exact (hl.sy g hg).1
    · rw [List.mem_singleton] at hg; subst hg; exact hl.pp
  have hlt : ∀ g ∈ pre ++ [f], g.n < x.no + 1 := fun g hg => by
    rcases List.mem_append.1 hg with hg | hg
    · have := (List.pairwise_append.1 hl.hh.asc).2.2 g hg f List.mem_cons_self; omega
    · rw [List.mem_singleton] at hg; subst hg; omega
  have hnN := hl.nN
  obtain ⟨c, hc1, hc2, hc3, h1, h2, h3⟩ := beg_ways nm x b (x.no + 1) (N + 1) (pre ++ [f]) hl.hh hpp hlt hd hdd ha hn (by omega) (by omega) hb hr
  have e : chkW nm x b ((pre ++ [f] ++ [c]).map Fi.n) = begW nm x (x.no + 1) b ((pre ++ [f] ++ [c]).map Fi.n) := by unfold chkW; rw [if_neg (by omega), hdd]; rfl
  refine ⟨(pre ++ [f] ++ [c]).map Fi.n, fun _ _ => h1, ?_, by rw [e]; exact h3⟩
  rw [e]
  rcases h2 with h2 | ⟨h4, h5, h6, h7, h8⟩
  · exact .inl h2
  · refine .inr ⟨h4, h5, h6, h7, ?_⟩
    have hup : LD nm x.st.fs base R k (N + 1) := LD.up (N := N) ⟨a, pre, f, i, hl⟩ (by omega)
    rcases h8 with h8 | ⟨c', g1, g2, g3, g4, g5⟩ | ⟨c', old, g1, g2, g3, g4, g5, g6⟩
    · rw [h8]; exact .inl hup
    · have hl' : LDs nm x.st.fs base R k (N + 1) a pre f i := ⟨hl.hh, hl.run, hl.sy, hl.pp, hl.rc, hl.il, hl.ss, hl.one, hl.kk, by omega⟩
      exact .inr ⟨pre ++ [f], c', g5, g2, g3, by omega, hpp, .inr ⟨g4, a, pre, f, i, x.st.fs, rfl, hl'⟩⟩
    · exact .inr ⟨old, c', g6, g2, g3, by omega, g5, .inl g4⟩
theorem chk_lx {Y : Nat → Prop} {g q m : Nat} {nm : By} {most : Nat} {x : Wl} {base : By} {R : List By} {k N T rm : Nat} (b : By) (bv : Value) (w : World) (h : LX Y w g q m nm most x base R k N T rm) (hn : nm.length ≤ 32) (hN : N < 99) (hb : b.length ≤ 60000)
    (hrd : Rd w 1 bv b.length (Lib.byteCells b)) (hT : T + b.length + 12 ≤ rm) :
    Calls Tryz.prog 14 #[.pointer (some ⟨g, 0, none⟩), bv] w fun e w' => Kp Y w w' ∧ ∃ r : Nat × Wl, e = .returned (.int .i64 (r.1 : Int)) ∧ WA Y w' g q m nm most r.2 ∧ tot r.2.st.fs ≤ T + b.length + 12 ∧ r.2.st.room = rm ∧ (x.st.armed = false → r.2.st.armed = false) ∧
      (r.1 = 0 ∧ Live nm r.2 b [] 0 (N + 1) ∨ r.1 = 9 ∧ r.2.st.down = true ∧ r.2.dead = true ∧ x.st.armed = true ∧ (LD nm r.2.st.fs base R k (N + 1) ∨ CD nm r.2.st.fs base R k b (N + 1))) := by
  have hno := h.no
  obtain ⟨l, h3, h4, h5⟩ := live_chk nm x base b R k N h.lv h.wa.py.fit.asc hn hN hb (by have := h.tt; have := h.rm; omega)
  refine (chk_any g q m nm most x b bv l w h.wa hn (by omega) hrd (by omega) h3).mono ?_
  rintro e w' ⟨rfl, h1, h2⟩
  exact ⟨h2, _, rfl, h1, by have := h5.tot; have := h.tt; omega, h5.room.trans h.rm, h5.arm, h4⟩
theorem chk_long {Y : Nat → Prop} {g q m : Nat} {nm : By} {most : Nat} {x : Wl} {base : By} {R : List By} {k N T rm : Nat} (b : By) (bv : Value) (w : World) (h : LX Y w g q m nm most x base R k N T rm) (hn : nm.length ≤ 32) (hN : N < 99) (hb : 60000 < b.length) (hb2 : b.length ≤ 140737488355000)
    (hrd : Rd w 1 bv b.length (Lib.byteCells b)) :
    Calls Tryz.prog 14 #[.pointer (some ⟨g, 0, none⟩), bv] w fun e w' => Kp Y w w' ∧ e = .returned (.int .i64 2) ∧ LX Y w' g q m nm most x base R k N T rm := by
  have hno := h.no
  refine (chk_any g q m nm most x b bv [] w h.wa hn (by omega) hrd hb2 (fun _ h6 => by omega)).mono ?_
  have e0 : chkW nm x b [] = (2, x) := by unfold chkW; rw [if_pos hb]
  rw [e0]
  rintro e w' ⟨rfl, h1, h2⟩
  exact ⟨h2, rfl, h1, h.lv, h.tt, h.rm⟩
/-- an opening that is done -/
structure OX (Y : Nat → Prop) (w w' : World) (q m : Nat) (nm : By) (most : Nat) (base : By) (R : List By) (k N T rm : Nat) (st : St) (g : Nat) (bv rv : Value) (x : Wl) (Yc : Nat → Prop) : Prop where
  sub : ∀ k, Y k → Yc k
  lx : LX Yc w' g q m nm most x base R k N T rm
  lg : LgV (fun k => Yc k ∧ w.heap.size ≤ k) w' ⟨base, R, R.length⟩ bv rv
  arm : st.armed = false → x.st.armed = false
  all : st.fs ≠ [] → AllS st.fs → AllS x.st.fs
  new : w.heap.size ≤ g
  hd : ∃ vs ob, Hd Yc w' w.heap.size rv vs R bv ob ∧ (ob = some base ∨ ob = none ∧ base = [])
theorem Hd.lg {Yc : Nat → Prop} {W : World} {B : Nat} {rv : Value} {vs : List Value} {R : List By} {bv : Value} {ob : Option By} {base : By} (h : Hd Yc W B rv vs R bv ob) (ho : ob = some base ∨ ob = none ∧ base = []) (hl : ∀ b ∈ R, b.length ≤ 60000) (hb : base.length ≤ 60000) (hR : R.length ≤ 1000000) :
    LgV (fun k => Yc k ∧ B ≤ k) W ⟨base, R, R.length⟩ bv rv := by
  have hr := h.rdB fun b hb => Nat.le_trans (hl b hb) (by omega)
  rcases ho with rfl | ⟨rfl, rfl⟩
  · have hc := h.bs.2 base rfl
    exact ⟨hc.rd, hr, fun _ k hk => ⟨(h.yv bv List.mem_cons_self k hk).1, (hc.lt k hk).1⟩, by simp only; omega, hR⟩
  · have e := h.bs.1 rfl
    subst e
    exact ⟨Rd.nil _ _, hr, fun h0 => absurd h0 (by simp), by simp, hR⟩
theorem open_lx {Y : Nat → Prop} {q m : Nat} {nm : By} {most : Nat} {st : St} {base : By} {R : List By} {N T rm : Nat} (w : World) (h : PY Y w q m st) (hn1 : 1 ≤ nm.length) (hn : nm.length ≤ 32) (hm1 : 1 ≤ most) (hm : most ≤ 1048576) (hd : st.down = false)
    (hD : Disk nm st.fs base R N) (hN : N ≤ 99) (hT : tot st.fs ≤ T) (hrm : st.room = rm) (hR : R.length ≤ 1000000) :
    Calls Tryz.prog 11 #[.pointer (some ⟨q, 0, none⟩), .string ⟨nm.toArray⟩, .int .i64 (most : Int)] w fun e w' => Kp Y w w' ∧
      ((∃ g bv rv x Yc, e = .returned (.tuple #[.pointer (some ⟨g, 0, none⟩), bv, rv, .int .i64 0]) ∧ OX Y w w' q m nm most base R R.length N T rm st g bv rv x Yc) ∨
       (st.armed = true ∧ e = .returned (.tuple #[.pointer none, .slice none 0 0, .slice none 0 0, .int .i64 9]) ∧ ∃ st', PY Y w' q m st' ∧ st'.down = true ∧ Disk nm st'.fs base R N ∧ tot st'.fs ≤ T ∧ st'.room = rm ∧ (AllS st.fs → AllS st'.fs))) := by
  obtain ⟨a, old, pre, f, jk, hD⟩ := hD
  have hw := rep_ways nm (newW st) base R N a old pre f jk hD h.fit.asc hn hN hd rfl
  obtain ⟨h1, h2, h3⟩ := hw
  refine (open_disk' q m nm most st old pre jk f a base w h hn1 hn hm1 hm hd hD.hh hD.run (fun g hg => (hD.sy g hg).1) hD.jf).mono ?_
  rintro e w' ⟨hk, hx⟩
  refine ⟨hk, ?_⟩
  rw [hD.rc] at hx
  rcases hx with ⟨h0, g, bv, rv, vs, Yc, ob, rfl, hs, hwa, hhd, hob, hng⟩ | ⟨h0, rfl, hpy⟩
  · rcases h1 with ⟨_, hlv⟩ | ⟨h9, _⟩
    · refine .inl ⟨g, bv, rv, (repW nm (newW st) old pre f jk).2, Yc, rfl, ?_⟩
      have hlx : LX Yc w' g q m nm most (repW nm (newW st) old pre f jk).2 base R R.length N T rm := ⟨hwa, hlv, by have := h2.tot; have e : (newW st).st = st := rfl; rw [e] at this; omega, h2.room.trans hrm⟩
      exact ⟨hs, hlx, hhd.lg hob hlx.no.2.2.2.1 hlx.no.2.2.2.2 hR, h2.arm, fun _ => h3, hng, vs, ob, hhd, hob⟩
    · rw [h9] at h0; cases h0
  · rcases h1 with ⟨h9, _⟩ | ⟨h9, hdn, harm, hdk⟩
    · exact absurd h9 h0
    · exact .inr ⟨harm, by rw [h9]; rfl, _, hpy, hdn, hdk, by have := h2.tot; have e : (newW st).st = st := rfl; rw [e] at this; omega, h2.room.trans hrm, h3⟩
theorem open_new {Y : Nat → Prop} {q m : Nat} {nm : By} {most : Nat} {st : St} {rm : Nat} (w : World) (h : PY Y w q m st) (hn1 : 1 ≤ nm.length) (hn : nm.length ≤ 32) (hm1 : 1 ≤ most) (hm : most ≤ 1048576) (hd : st.down = false) (ha : st.armed = false) (hfs : st.fs = []) (hrm : st.room = rm) (hr : 100 ≤ rm) :
    Calls Tryz.prog 11 #[.pointer (some ⟨q, 0, none⟩), .string ⟨nm.toArray⟩, .int .i64 (most : Int)] w fun e w' => Kp Y w w' ∧ ∃ g bv rv x Yc, e = .returned (.tuple #[.pointer (some ⟨g, 0, none⟩), bv, rv, .int .i64 0]) ∧ OX Y w w' q m nm most [] [] 0 1 12 rm st g bv rv x Yc := by
  have hH : Holds nm (newW st).st.fs [] := by
    have e : (newW st).st.fs = [] := hfs
    rw [e]
    exact ⟨fun g => by simp, List.Pairwise.nil, fun f hf => (by cases hf)⟩
  have ht : tot (newW st).st.fs = 0 := by have e : (newW st).st.fs = [] := hfs; rw [e]; rfl
  have hb := beg_ways nm (newW st) [] 1 1 [] hH (fun g hg => (by cases hg)) (fun g hg => (by cases hg)) hd rfl (by have e : (newW st).st.fs = [] := hfs; rw [e]; exact List.Pairwise.nil) hn (Nat.le_refl _) (by omega) (by simp) (by rw [ht]; have e : (newW st).st.room = rm := hrm; rw [e]; simp; omega)
  obtain ⟨c, hc1, hc2, hc3, h1, h2, h3⟩ := hb
  generalize ([] ++ [c]).map Fi.n = l at *
  refine (open_empty q m nm most st l w h hn1 hn hm1 hm hd hfs h1).mono ?_
  rintro e w' ⟨hk, hx⟩
  refine ⟨hk, ?_⟩
  rcases h2 with ⟨h4, hlv⟩ | ⟨_, _, _, h5, _⟩
  · rcases hx with ⟨h0, g, bv, rv, vs, Yc, ob, rfl, hs, hwa, hhd, hob, hng⟩ | ⟨h0, _⟩
    · have hlx : LX Yc w' g q m nm most (begW nm (newW st) 1 [] l).2 [] [] 0 1 12 rm := ⟨hwa, hlv, by have := h3.tot; rw [ht] at this; simpa using this, h3.room.trans hrm⟩
      exact ⟨g, bv, rv, (begW nm (newW st) 1 [] l).2, Yc, rfl, hs, hlx, hhd.lg hob (fun b hb => (by cases hb)) (by simp) (by simp), h3.arm, fun hne => absurd hfs hne, hng, vs, ob, hhd, hob⟩
    · exact absurd h4 h0
  · exact absurd h5 (by have e : (newW st).st.armed = st.armed := rfl; rw [e, ha]; decide)
end Go.Proofs.YthofbblgoamipaaGreatDoor.Wa
