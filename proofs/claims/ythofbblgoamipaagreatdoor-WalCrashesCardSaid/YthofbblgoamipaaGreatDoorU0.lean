/-
  Chapter 12: each call of the log, its memory and what it says together.
-/
import Derived.Test.YthofbblgoamipaaGreatDoorT2
import Derived.Test.YthofbblgoamipaaGreatDoorVx
import Derived.Lib.SmallJoins
import Derived.Deep.QuietTactic
import Derived.BigQuiet
namespace Go.Proofs.YthofbblgoamipaaGreatDoor.Wa
open Go.RowKit Pt
set_option linter.unusedVariables false
set_option linter.unusedSimpArgs false
set_option maxRecDepth 100000

/-- a log at work, in memory: base, records, how many last; T: the plate's bytes, rm: its room -/
structure LX (Y : Nat → Prop) (W : World) (g q m : Nat) (nm : By) (most : Nat) (x : Wl) (base : By) (R : List By) (k N T rm : Nat) : Prop where
  wa : WA Y W g q m nm most x
  lv : Live nm x base R k N
  tt : tot x.st.fs ≤ T
  rm : x.st.room = rm
theorem LX.no {Y : Nat → Prop} {W : World} {g q m : Nat} {nm : By} {most : Nat} {x : Wl} {base : By} {R : List By} {k N T rm : Nat} (h : LX Y W g q m nm most x base R k N T rm) : x.no ≤ N ∧ x.size ≤ 268435456 ∧ k ≤ R.length ∧ (∀ b ∈ R, b.length ≤ 60000) ∧ base.length ≤ 60000 := by
  obtain ⟨a, pre, f, i, hl, hno, hsz⟩ := h.lv.ld
  have hf : f ∈ pre ++ [f] := by simp
  have hgb := hl.hh.gB h.wa.py.fit.asc hf
  have h1 := tot_lay ⟨fnm nm f.n, [], 0⟩ x.st.fs h.wa.py.fit.asc
  simp only [List.length_nil, Nat.add_zero] at h1
  rw [hgb.1] at h1
  have h2 := h.wa.py.fit.room
  have h3 := h.wa.py.fit.tot
  refine ⟨by rw [hno]; exact hl.nN, by omega, hl.kle, fun b hb => ?_, ?_⟩
  · rw [← hl.rc] at hb
    unfold recs at hb
    obtain ⟨l, hl1, hb2⟩ := List.mem_flatten.1 hb
    obtain ⟨g, hg, rfl⟩ := List.mem_map.1 hl1
    unfold rec1 at hb2
    obtain ⟨x2, hx2, rfl⟩ := List.mem_map.1 hb2
    exact ((hl.hh.ok g hg).fr x2 (List.mem_of_mem_tail hx2)).2
  · obtain ⟨g0, hg0⟩ : ∃ g0, (pre ++ [f])[0]? = some g0 := ⟨_, List.getElem?_eq_getElem (by simp)⟩
    obtain ⟨rs, e⟩ := hl.run.hd 0 g0 hg0
    exact ((hl.hh.ok g0 (List.mem_of_getElem? hg0)).fr (0, base) (by rw [e]; exact List.mem_cons_self)).2
theorem LD.up {nm : By} {fs : List Fl} {base : By} {R : List By} {k N M : Nat} (h : LD nm fs base R k N) (hM : N ≤ M) : LD nm fs base R k M := by
  obtain ⟨a, pre, f, i, h⟩ := h
  exact ⟨a, pre, f, i, h.hh, h.run, h.sy, h.pp, h.rc, h.il, h.ss, h.one, h.kk, Nat.le_trans h.nN hM⟩
theorem Live.up {nm : By} {x : Wl} {base : By} {R : List By} {k N M : Nat} (h : Live nm x base R k N) (hM : N ≤ M) : Live nm x base R k M := by
  obtain ⟨⟨a, pre, f, i, h, h2⟩, h3, h4, h5⟩ := h
  exact ⟨⟨a, pre, f, i, ⟨h.hh, h.run, h.sy, h.pp, h.rc, h.il, h.ss, h.one, h.kk, Nat.le_trans h.nN hM⟩, h2⟩, h3, h4, h5⟩
theorem Live.disk {nm : By} {x : Wl} {base : By} {R : List By} {k N : Nat} (h : Live nm x base R k N) : LD nm x.st.fs base R k N := by
  obtain ⟨⟨a, pre, f, i, h, _⟩, _⟩ := h
  exact ⟨a, pre, f, i, h⟩
theorem Disk.up {nm : By} {fs : List Fl} {base : By} {R : List By} {N M : Nat} (h : Disk nm fs base R N) (hM : N ≤ M) : Disk nm fs base R M := by
  obtain ⟨a, old, pre, f, jk, h⟩ := h
  exact ⟨a, old, pre, f, jk, h.hh, h.run, h.sy, h.jf, h.rc, fun g hg => Nat.le_trans (h.nN g hg) hM⟩
theorem add_lx {Y : Nat → Prop} {g q m : Nat} {nm : By} {most : Nat} {x : Wl} {base : By} {R : List By} {k N T rm : Nat} (b : By) (bv : Value) (w : World) (h : LX Y w g q m nm most x base R k N T rm) (hn : nm.length ≤ 32) (hN : N < 99) (hb : b.length ≤ 60000)
    (hrd : Rd w 1 bv b.length (Lib.byteCells b)) (hbY : 0 < b.length → ∀ k, bv.ownBlock = some k → Y k) (hm : most ≤ 1000000000) (hR : R.length ≤ 1000000) (hT : T + b.length + 24 ≤ rm) :
    Calls Tryz.prog 12 #[.pointer (some ⟨g, 0, none⟩), bv] w fun e w' => Kp Y w w' ∧ ∃ r : Nat × Wl, e = .returned (.int .i64 (r.1 : Int)) ∧ WA Y w' g q m nm most r.2 ∧ tot r.2.st.fs ≤ T + b.length + 24 ∧ r.2.st.room = rm ∧ (x.st.armed = false → r.2.st.armed = false) ∧
      (r.1 = 0 ∧ (∃ k', Live nm r.2 base (R ++ [b]) k' (N + 1) ∧ k ≤ k' ∧ (k' = k ∨ k' = R.length)) ∨ r.1 = 9 ∧ r.2.st.down = true ∧ r.2.dead = true ∧ x.st.armed = true ∧ ∃ k', LD nm r.2.st.fs base R k' (N + 1) ∧ k ≤ k') := by
  have hno := h.no
  refine (add_any g q m nm most x b bv w h.wa hn (by omega) hrd hbY (by omega) hm ⟨by omega, by rw [h.lv.count]; omega⟩).mono ?_
  rintro e w' ⟨rfl, h1, h2⟩
  obtain ⟨h3, h4⟩ := live_add nm most x base b R k N h.lv h.wa.py.fit.asc hn hN hb (by have := h.tt; have := h.rm; omega)
  exact ⟨h2, _, rfl, h1, by have := h4.tot; have := h.tt; omega, h4.room.trans h.rm, h4.arm, h3⟩
theorem add_long {Y : Nat → Prop} {g q m : Nat} {nm : By} {most : Nat} {x : Wl} {base : By} {R : List By} {k N T rm : Nat} (b : By) (bv : Value) (w : World) (h : LX Y w g q m nm most x base R k N T rm) (hn : nm.length ≤ 32) (hN : N < 99) (hb : 60000 < b.length) (hb2 : b.length ≤ 140737488355000)
    (hrd : Rd w 1 bv b.length (Lib.byteCells b)) (hbY : 0 < b.length → ∀ k, bv.ownBlock = some k → Y k) (hm : most ≤ 1000000000) (hR : R.length ≤ 1000000) :
    Calls Tryz.prog 12 #[.pointer (some ⟨g, 0, none⟩), bv] w fun e w' => Kp Y w w' ∧ e = .returned (.int .i64 2) ∧ LX Y w' g q m nm most x base R k N T rm := by
  have hno := h.no
  refine (add_any g q m nm most x b bv w h.wa hn (by omega) hrd hbY hb2 hm ⟨by omega, by rw [h.lv.count]; omega⟩).mono ?_
  have e0 : addW nm most x b = (2, x) := by unfold addW; rw [if_pos hb]
  rw [e0]
  rintro e w' ⟨rfl, h1, h2⟩
  exact ⟨h2, rfl, h1, h.lv, h.tt, h.rm⟩
theorem sync_lx {Y : Nat → Prop} {g q m : Nat} {nm : By} {most : Nat} {x : Wl} {base : By} {R : List By} {k N T rm : Nat} (w : World) (h : LX Y w g q m nm most x base R k N T rm) (hn : nm.length ≤ 32) (hN : N ≤ 99) :
    Calls Tryz.prog 13 #[.pointer (some ⟨g, 0, none⟩)] w fun e w' => Kp Y w w' ∧ ∃ r : Nat × Wl, e = .returned (.int .i64 (r.1 : Int)) ∧ WA Y w' g q m nm most r.2 ∧ tot r.2.st.fs ≤ T ∧ r.2.st.room = rm ∧ (x.st.armed = false → r.2.st.armed = false) ∧
      (r.1 = 0 ∧ Live nm r.2 base R R.length N ∨ r.1 = 9 ∧ r.2.st.down = true ∧ r.2.dead = true ∧ x.st.armed = true ∧ LD nm r.2.st.fs base R k N) := by
  have hno := h.no
  refine (sync_any g q m nm most x w h.wa hn (by omega)).mono ?_
  rintro e w' ⟨rfl, h1, h2⟩
  obtain ⟨h3, h4⟩ := live_last nm x base R k N h.lv h.wa.py.fit.asc hn
  exact ⟨h2, _, rfl, h1, by have := h4.tot; have := h.tt; omega, h4.room.trans h.rm, h4.arm, h3⟩
theorem live_chk (nm : By) (x : Wl) (base b : By) (R : List By) (k N : Nat) (h : Live nm x base R k N) (ha : Asc x.st.fs) (hn : nm.length ≤ 32) (hN : N < 99) (hb : b.length ≤ 60000) (hr : tot x.st.fs + b.length + 12 ≤ x.st.room) :
    ∃ l, (x.dead = false → b.length ≤ 60000 → ∀ r, r = appW nm x (x.no + 1) (enc 0 b) → r.1 = 0 → ∀ r2, r2 = synW nm r.2 (x.no + 1) → r2.1 = 0 → Named nm r2.2.st.fs l) ∧
      ((chkW nm x b l).1 = 0 ∧ Live nm (chkW nm x b l).2 b [] 0 (N + 1) ∨ (chkW nm x b l).1 = 9 ∧ (chkW nm x b l).2.st.down = true ∧ (chkW nm x b l).2.dead = true ∧ x.st.armed = true ∧ (LD nm (chkW nm x b l).2.st.fs base R k (N + 1) ∨ CD nm (chkW nm x b l).2.st.fs base R k b (N + 1))) ∧
      Aft x (chkW nm x b l) (b.length + 12) := by
  obtain ⟨⟨a, pre, f, i, hl, hno, hsz⟩, hct, hdd, hd⟩ := h
  have hpp : ∀ g ∈ pre ++ [f], g.p = [] := fun g hg => by
    rcases List.mem_append.1 hg with hg | hg
    · exact (hl.sy g hg).1
    · rw [List.mem_singleton] at hg; subst hg; exact hl.pp
  have hlt : ∀ g ∈ pre ++ [f], g.n < x.no + 1 := fun g hg => by
    rcases List.mem_append.1 hg with hg | hg
    · have := (List.pairwise_append.1 hl.hh.asc).2.2 g hg f List.mem_cons_self; omega
    · rw [List.mem_singleton] at hg; subst hg; omega
  have hnN := hl.nN
  obtain ⟨c, hc1, hc2, hc3, h1, h2, h3⟩ := beg_ways nm x b (x.no + 1) (N + 1) (pre ++ [f]) hl.hh hpp hlt hd hdd ha hn (by omega) (by omega) hb hr
  have e : chkW nm x b ((pre ++ [f] ++ [c]).map Fi.n) = begW nm x (x.no + 1) b ((pre ++ [f] ++ [c]).map Fi.n) := by unfold chkW; rw [if_neg (by omega), hdd]; rfl
  refine ⟨(pre ++ [f] ++ [c]).map Fi.n, fun _ _ => h1, ?_, by rw [e]; exact h3⟩
  rw [e]
  rcases h2 with h2 | ⟨h4, h5, h6, h7, h8⟩
  · exact .inl h2
  · refine .inr ⟨h4, h5, h6, h7, ?_⟩
    have hup : LD nm x.st.fs base R k (N + 1) := LD.up (N := N) ⟨a, pre, f, i, hl⟩ (by omega)
    rcases h8 with h8 | ⟨c', g1, g2, g3, g4, g5⟩ | ⟨c', old, g1, g2, g3, g4, g5, g6⟩
    · rw [h8]; exact .inl hup
    · have hl' : LDs nm x.st.fs base R k (N + 1) a pre f i := ⟨hl.hh, hl.run, hl.sy, hl.pp, hl.rc, hl.il, hl.ss, hl.one, hl.kk, by omega⟩
      exact .inr ⟨pre ++ [f], c', g5, g2, g3, by omega, hpp, .inr ⟨g4, a, pre, f, i, x.st.fs, rfl, hl'⟩⟩
    · exact .inr ⟨old, c', g6, g2, g3, by omega, g5, .inl g4⟩
theorem chk_lx {Y : Nat → Prop} {g q m : Nat} {nm : By} {most : Nat} {x : Wl} {base : By} {R : List By} {k N T rm : Nat} (b : By) (bv : Value) (w : World) (h : LX Y w g q m nm most x base R k N T rm) (hn : nm.length ≤ 32) (hN : N < 99) (hb : b.length ≤ 60000)
    (hrd : Rd w 1 bv b.length (Lib.byteCells b)) (hT : T + b.length + 12 ≤ rm) :
    Calls Tryz.prog 14 #[.pointer (some ⟨g, 0, none⟩), bv] w fun e w' => Kp Y w w' ∧ ∃ r : Nat × Wl, e = .returned (.int .i64 (r.1 : Int)) ∧ WA Y w' g q m nm most r.2 ∧ tot r.2.st.fs ≤ T + b.length + 12 ∧ r.2.st.room = rm ∧ (x.st.armed = false → r.2.st.armed = false) ∧
      (r.1 = 0 ∧ Live nm r.2 b [] 0 (N + 1) ∨ r.1 = 9 ∧ r.2.st.down = true ∧ r.2.dead = true ∧ x.st.armed = true ∧ (LD nm r.2.st.fs base R k (N + 1) ∨ CD nm r.2.st.fs base R k b (N + 1))) := by
  have hno := h.no
  obtain ⟨l, h3, h4, h5⟩ := live_chk nm x base b R k N h.lv h.wa.py.fit.asc hn hN hb (by have := h.tt; have := h.rm; omega)
  refine (chk_any g q m nm most x b bv l w h.wa hn (by omega) hrd (by omega) h3).mono ?_
  rintro e w' ⟨rfl, h1, h2⟩
  exact ⟨h2, _, rfl, h1, by have := h5.tot; have := h.tt; omega, h5.room.trans h.rm, h5.arm, h4⟩
theorem chk_long {Y : Nat → Prop} {g q m : Nat} {nm : By} {most : Nat} {x : Wl} {base : By} {R : List By} {k N T rm : Nat} (b : By) (bv : Value) (w : World) (h : LX Y w g q m nm most x base R k N T rm) (hn : nm.length ≤ 32) (hN : N < 99) (hb : 60000 < b.length) (hb2 : b.length ≤ 140737488355000)
    (hrd : Rd w 1 bv b.length (Lib.byteCells b)) :
    Calls Tryz.prog 14 #[.pointer (some ⟨g, 0, none⟩), bv] w fun e w' => Kp Y w w' ∧ e = .returned (.int .i64 2) ∧ LX Y w' g q m nm most x base R k N T rm := by
  have hno := h.no
  refine (chk_any g q m nm most x b bv [] w h.wa hn (by omega) hrd hb2 (fun _ h6 => by omega)).mono ?_
  have e0 : chkW nm x b [] = (2, x) := by unfold chkW; rw [if_pos hb]
  rw [e0]
  rintro e w' ⟨rfl, h1, h2⟩
  exact ⟨h2, rfl, h1, h.lv, h.tt, h.rm⟩
/-- an opening that is done -/
structure OX (Y : Nat → Prop) (w w' : World) (q m : Nat) (nm : By) (most : Nat) (base : By) (R : List By) (k N T rm : Nat) (st : St) (g : Nat) (bv rv : Value) (x : Wl) (Yc : Nat → Prop) : Prop where
  sub : ∀ k, Y k → Yc k
  lx : LX Yc w' g q m nm most x base R k N T rm
  lg : LgV (fun k => Yc k ∧ w.heap.size ≤ k) w' ⟨base, R, R.length⟩ bv rv
  arm : st.armed = false → x.st.armed = false
  all : st.fs ≠ [] → AllS st.fs → AllS x.st.fs
  new : w.heap.size ≤ g
  hd : ∃ vs ob, Hd Yc w' w.heap.size rv vs R bv ob ∧ (ob = some base ∨ ob = none ∧ base = [])
theorem Hd.lg {Yc : Nat → Prop} {W : World} {B : Nat} {rv : Value} {vs : List Value} {R : List By} {bv : Value} {ob : Option By} {base : By} (h : Hd Yc W B rv vs R bv ob) (ho : ob = some base ∨ ob = none ∧ base = []) (hl : ∀ b ∈ R, b.length ≤ 60000) (hb : base.length ≤ 60000) (hR : R.length ≤ 1000000) :
    LgV (fun k => Yc k ∧ B ≤ k) W ⟨base, R, R.length⟩ bv rv := by
  have hr := h.rdB fun b hb => Nat.le_trans (hl b hb) (by omega)
  rcases ho with rfl | ⟨rfl, rfl⟩
  · have hc := h.bs.2 base rfl
    exact ⟨hc.rd, hr, fun _ k hk => ⟨(h.yv bv List.mem_cons_self k hk).1, (hc.lt k hk).1⟩, by simp only; omega, hR⟩
  · have e := h.bs.1 rfl
    subst e
    exact ⟨Rd.nil _ _, hr, fun h0 => absurd h0 (by simp), by simp, hR⟩
theorem open_lx {Y : Nat → Prop} {q m : Nat} {nm : By} {most : Nat} {st : St} {base : By} {R : List By} {N T rm : Nat} (w : World) (h : PY Y w q m st) (hn1 : 1 ≤ nm.length) (hn : nm.length ≤ 32) (hm1 : 1 ≤ most) (hm : most ≤ 1048576) (hd : st.down = false)
    (hD : Disk nm st.fs base R N) (hN : N ≤ 99) (hT : tot st.fs ≤ T) (hrm : st.room = rm) (hR : R.length ≤ 1000000) :
    Calls Tryz.prog 11 #[.pointer (some ⟨q, 0, none⟩), .string ⟨nm.toArray⟩, .int .i64 (most : Int)] w fun e w' => Kp Y w w' ∧
      ((∃ g bv rv x Yc, e = .returned (.tuple #[.pointer (some ⟨g, 0, none⟩), bv, rv, .int .i64 0]) ∧ OX Y w w' q m nm most base R R.length N T rm st g bv rv x Yc) ∨
       (st.armed = true ∧ e = .returned (.tuple #[.pointer none, .slice none 0 0, .slice none 0 0, .int .i64 9]) ∧ ∃ st', PY Y w' q m st' ∧ st'.down = true ∧ Disk nm st'.fs base R N ∧ tot st'.fs ≤ T ∧ st'.room = rm ∧ (AllS st.fs → AllS st'.fs))) := by
  obtain ⟨a, old, pre, f, jk, hD⟩ := hD
  have hw := rep_ways nm (newW st) base R N a old pre f jk hD h.fit.asc hn hN hd rfl
  obtain ⟨h1, h2, h3⟩ := hw
  refine (open_disk' q m nm most st old pre jk f a base w h hn1 hn hm1 hm hd hD.hh hD.run (fun g hg => (hD.sy g hg).1) hD.jf).mono ?_
  rintro e w' ⟨hk, hx⟩
  refine ⟨hk, ?_⟩
  rw [hD.rc] at hx
  rcases hx with ⟨h0, g, bv, rv, vs, Yc, ob, rfl, hs, hwa, hhd, hob, hng⟩ | ⟨h0, rfl, hpy⟩
  · rcases h1 with ⟨_, hlv⟩ | ⟨h9, _⟩
    · refine .inl ⟨g, bv, rv, (repW nm (newW st) old pre f jk).2, Yc, rfl, ?_⟩
      have hlx : LX Yc w' g q m nm most (repW nm (newW st) old pre f jk).2 base R R.length N T rm := ⟨hwa, hlv, by have := h2.tot; have e : (newW st).st = st := rfl; rw [e] at this; omega, h2.room.trans hrm⟩
      exact ⟨hs, hlx, hhd.lg hob hlx.no.2.2.2.1 hlx.no.2.2.2.2 hR, h2.arm, fun _ => h3, hng, vs, ob, hhd, hob⟩
    · rw [h9] at h0; cases h0
  · rcases h1 with ⟨h9, _⟩ | ⟨h9, hdn, harm, hdk⟩
    · exact absurd h9 h0
    · exact .inr ⟨harm, by rw [h9]; rfl, _, hpy, hdn, hdk, by have := h2.tot; have e : (newW st).st = st := rfl; rw [e] at this; omega, h2.room.trans hrm, h3⟩
theorem open_new {Y : Nat → Prop} {q m : Nat} {nm : By} {most : Nat} {st : St} {rm : Nat} (w : World) (h : PY Y w q m st) (hn1 : 1 ≤ nm.length) (hn : nm.length ≤ 32) (hm1 : 1 ≤ most) (hm : most ≤ 1048576) (hd : st.down = false) (ha : st.armed = false) (hfs : st.fs = []) (hrm : st.room = rm) (hr : 100 ≤ rm) :
    Calls Tryz.prog 11 #[.pointer (some ⟨q, 0, none⟩), .string ⟨nm.toArray⟩, .int .i64 (most : Int)] w fun e w' => Kp Y w w' ∧ ∃ g bv rv x Yc, e = .returned (.tuple #[.pointer (some ⟨g, 0, none⟩), bv, rv, .int .i64 0]) ∧ OX Y w w' q m nm most [] [] 0 1 12 rm st g bv rv x Yc := by
  have hH : Holds nm (newW st).st.fs [] := by
    have e : (newW st).st.fs = [] := hfs
    rw [e]
    exact ⟨fun g => by simp, List.Pairwise.nil, fun f hf => (by cases hf)⟩
  have ht : tot (newW st).st.fs = 0 := by have e : (newW st).st.fs = [] := hfs; rw [e]; rfl
  have hb := beg_ways nm (newW st) [] 1 1 [] hH (fun g hg => (by cases hg)) (fun g hg => (by cases hg)) hd rfl (by have e : (newW st).st.fs = [] := hfs; rw [e]; exact List.Pairwise.nil) hn (Nat.le_refl _) (by omega) (by simp) (by rw [ht]; have e : (newW st).st.room = rm := hrm; rw [e]; simp; omega)
  obtain ⟨c, hc1, hc2, hc3, h1, h2, h3⟩ := hb
  generalize ([] ++ [c]).map Fi.n = l at *
  refine (open_empty q m nm most st l w h hn1 hn hm1 hm hd hfs h1).mono ?_
  rintro e w' ⟨hk, hx⟩
  refine ⟨hk, ?_⟩
  rcases h2 with ⟨h4, hlv⟩ | ⟨_, _, _, h5, _⟩
  · rcases hx with ⟨h0, g, bv, rv, vs, Yc, ob, rfl, hs, hwa, hhd, hob, hng⟩ | ⟨h0, _⟩
    · have hlx : LX Yc w' g q m nm most (begW nm (newW st) 1 [] l).2 [] [] 0 1 12 rm := ⟨hwa, hlv, by have := h3.tot; rw [ht] at this; simpa using this, h3.room.trans hrm⟩
      exact ⟨g, bv, rv, (begW nm (newW st) 1 [] l).2, Yc, rfl, hs, hlx, hhd.lg hob (fun b hb => (by cases hb)) (by simp) (by simp), h3.arm, fun hne => absurd hfs hne, hng, vs, ob, hhd, hob⟩
    · exact absurd h4 h0
  · exact absurd h5 (by have e : (newW st).st.armed = st.armed := rfl; rw [e, ha]; decide)
end Go.Proofs.YthofbblgoamipaaGreatDoor.Wa
/- Chapter 12: a crash; the chapter's example (known). -/
namespace Go.Proofs.YthofbblgoamipaaGreatDoor.Wa
open Go.RowKit Pt
set_option linter.unusedVariables false
set_option linter.unusedSimpArgs false
set_option maxRecDepth 100000

/-- a plate that a log is to be opened from -/
structure CX (Y : Nat → Prop) (W : World) (q m : Nat) (nm : By) (st : St) (base : By) (R : List By) (N T rm : Nat) : Prop where
  pa : PY Y W q m st
  dk : Disk nm st.fs base R N
  all : AllS st.fs
  tt : tot st.fs ≤ T
  rm : st.room = rm
  down : st.down = false
  arm : st.armed = false
theorem Disk.ne {nm : By} {fs : List Fl} {base : By} {R : List By} {N : Nat} (h : Disk nm fs base R N) : fs ≠ [] := by
  obtain ⟨a, old, pre, f, jk, h⟩ := h
  intro e
  have := (h.hh.mem (f.fl nm)).2 ⟨f, by simp, rfl⟩
  rw [e] at this
  cases this
theorem crash_lx {Y : Nat → Prop} {g q m : Nat} {nm : By} {most : Nat} {x : Wl} {base : By} {R : List By} {k N T rm : Nat} (kv : Value) (ks : List Int) (w : World) (h : LX Y w g q m nm most x base R k N T rm) (hk : Rd w 1 kv ks.length (ks.map fun j => Value.int .i64 j)) (hkb : 0 < ks.length → ∀ b, kv.ownBlock = some b → Y b) :
    Calls Tryz.prog 25 #[.pointer (some ⟨q, 0, none⟩), kv] w fun e w' => e = .returned (.tuple #[]) ∧ Kp Y w w' ∧ ∃ st' m', CX Y w' q m nm st' base (R.take m') N T rm ∧ k ≤ m' ∧ m' ≤ R.length ∧ ((∀ i, kg ks i ≤ 0) → m' = k) := by
  refine (crash_py q m x.st kv ks w h.wa.py hk hkb).mono ?_
  rintro e w' ⟨rfl, h1, h2⟩
  obtain ⟨m', h3, h4, h5, h6, h7⟩ := ld_crash h.lv.disk h.wa.py.fit.asc (fun f hf => (h.wa.py.fit.file f hf).2.1) (kg ks)
  exact ⟨rfl, h2, crash x.st ks, m', ⟨h1, h6, h7, Nat.le_trans (tot_cr _ _) h.tt, h.rm, rfl, rfl⟩, h3, h4, h5⟩
theorem open_cx {Y : Nat → Prop} {q m : Nat} {nm : By} {most : Nat} {st : St} {base : By} {R : List By} {N T rm : Nat} (w : World) (h : CX Y w q m nm st base R N T rm) (hn1 : 1 ≤ nm.length) (hn : nm.length ≤ 32) (hm1 : 1 ≤ most) (hm : most ≤ 1048576) (hN : N ≤ 99) (hR : R.length ≤ 1000000) :
    Calls Tryz.prog 11 #[.pointer (some ⟨q, 0, none⟩), .string ⟨nm.toArray⟩, .int .i64 (most : Int)] w fun e w' => Kp Y w w' ∧ ∃ g bv rv x Yc, e = .returned (.tuple #[.pointer (some ⟨g, 0, none⟩), bv, rv, .int .i64 0]) ∧ OX Y w w' q m nm most base R R.length N T rm st g bv rv x Yc := by
  refine (open_lx w h.pa hn1 hn hm1 hm h.down h.dk hN h.tt h.rm hR).mono ?_
  rintro e w' ⟨h1, h2⟩
  refine ⟨h1, ?_⟩
  rcases h2 with h2 | ⟨h2, _⟩
  · exact h2
  · rw [h.arm] at h2; cases h2
theorem const_rd (W : World) (b : By) : Rd (W.alloc (.cells (Lib.byteCells b).toArray 5 (b.length, b.length + 1))) 1 (.slice (some ⟨W.heap.size, 0, none⟩) b.length b.length) b.length (Lib.byteCells b) ∧
    Below W.heap.size W (W.alloc (.cells (Lib.byteCells b).toArray 5 (b.length, b.length + 1))) := by
  refine ⟨⟨by unfold Lib.byteCells; simp, .inr ⟨W.heap.size, 0, b.length, rfl, Nat.le_refl _, fun j u hj => ?_⟩⟩, (Below.refl _ _).alloc (Nat.le_refl _) _⟩
  rw [Go.Joins.cell_alloc_mark_at _ _ _ _ _ _ rfl, Nat.zero_add]
  simpa using hj
/-- a log of nothing that is armed -/
theorem LX.more {Y : Nat → Prop} {W W' : World} {g q m : Nat} {nm : By} {most : Nat} {x : Wl} {base : By} {R : List By} {k N T rm : Nat} (h : LX Y W g q m nm most x base R k N T rm) (hb : Below W.heap.size W W') : LX (fun k => Y k ∨ (W.heap.size ≤ k ∧ k < W'.heap.size)) W' g q m nm most x base R k N T rm := ⟨h.wa.more hb, h.lv, h.tt, h.rm⟩
theorem LX.below {Y : Nat → Prop} {W W' : World} {g q m : Nat} {nm : By} {most : Nat} {x : Wl} {base : By} {R : List By} {k N T rm : Nat} (h : LX Y W g q m nm most x base R k N T rm) (hb : Below W.heap.size W W') : LX Y W' g q m nm most x base R k N T rm := ⟨h.wa.below hb, h.lv, h.tt, h.rm⟩
theorem LX.mono {X Y : Nat → Prop} {W : World} {g q m : Nat} {nm : By} {most : Nat} {x : Wl} {base : By} {R : List By} {k N T rm : Nat} (h : LX Y W g q m nm most x base R k N T rm) (hs : ∀ k, X k → Y k) : LX X W g q m nm most x base R k N T rm := ⟨h.wa.mono hs, h.lv, h.tt, h.rm⟩
/-- Append where no power goes out -/
theorem add_un {Y : Nat → Prop} {g q m : Nat} {nm : By} {most : Nat} {x : Wl} {base : By} {R : List By} {k N T rm : Nat} (b : By) (bv : Value) (w : World) (h : LX Y w g q m nm most x base R k N T rm) (hu : x.st.armed = false) (hn : nm.length ≤ 32) (hN : N < 99) (hb : b.length ≤ 60000)
    (hrd : Rd w 1 bv b.length (Lib.byteCells b)) (hbY : 0 < b.length → ∀ k, bv.ownBlock = some k → Y k) (hm : most ≤ 1000000000) (hR : R.length ≤ 1000000) (hT : T + b.length + 24 ≤ rm) :
    Calls Tryz.prog 12 #[.pointer (some ⟨g, 0, none⟩), bv] w fun e w' => e = .returned (.int .i64 0) ∧ Kp Y w w' ∧ ∃ x' k', LX Y w' g q m nm most x' base (R ++ [b]) k' (N + 1) (T + b.length + 24) rm ∧ x'.st.armed = false ∧ k ≤ k' ∧ (k' = k ∨ k' = R.length) := by
  refine (add_lx b bv w h hn hN hb hrd hbY hm hR hT).mono ?_
  rintro e w' ⟨h1, r, rfl, h2, h3, h4, h5, h6⟩
  rcases h6 with ⟨h6, k', h7, h8, h9⟩ | ⟨_, _, _, h9, _⟩
  · exact ⟨by rw [h6]; rfl, h1, r.2, k', ⟨h2, h7, h3, h4⟩, h5 hu, h8, h9⟩
  · rw [hu] at h9; cases h9
theorem sync_un {Y : Nat → Prop} {g q m : Nat} {nm : By} {most : Nat} {x : Wl} {base : By} {R : List By} {k N T rm : Nat} (w : World) (h : LX Y w g q m nm most x base R k N T rm) (hu : x.st.armed = false) (hn : nm.length ≤ 32) (hN : N ≤ 99) :
    Calls Tryz.prog 13 #[.pointer (some ⟨g, 0, none⟩)] w fun e w' => e = .returned (.int .i64 0) ∧ Kp Y w w' ∧ ∃ x', LX Y w' g q m nm most x' base R R.length N T rm ∧ x'.st.armed = false := by
  refine (sync_lx w h hn hN).mono ?_
  rintro e w' ⟨h1, r, rfl, h2, h3, h4, h5, h6⟩
  rcases h6 with ⟨h6, h7⟩ | ⟨_, _, _, h9, _⟩
  · exact ⟨by rw [h6]; rfl, h1, r.2, ⟨h2, h7, h3, h4⟩, h5 hu⟩
  · rw [hu] at h9; cases h9
theorem chk_un {Y : Nat → Prop} {g q m : Nat} {nm : By} {most : Nat} {x : Wl} {base : By} {R : List By} {k N T rm : Nat} (b : By) (bv : Value) (w : World) (h : LX Y w g q m nm most x base R k N T rm) (hu : x.st.armed = false) (hn : nm.length ≤ 32) (hN : N < 99) (hb : b.length ≤ 60000)
    (hrd : Rd w 1 bv b.length (Lib.byteCells b)) (hT : T + b.length + 12 ≤ rm) :
    Calls Tryz.prog 14 #[.pointer (some ⟨g, 0, none⟩), bv] w fun e w' => e = .returned (.int .i64 0) ∧ Kp Y w w' ∧ ∃ x', LX Y w' g q m nm most x' b [] 0 (N + 1) (T + b.length + 12) rm ∧ x'.st.armed = false := by
  refine (chk_lx b bv w h hn hN hb hrd hT).mono ?_
  rintro e w' ⟨h1, r, rfl, h2, h3, h4, h5, h6⟩
  rcases h6 with ⟨h6, h7⟩ | ⟨_, _, _, h9, _⟩
  · exact ⟨by rw [h6]; rfl, h1, r.2, ⟨h2, h7, h3, h4⟩, h5 hu⟩
  · rw [hu] at h9; cases h9
/-- Append of a constant text's bytes -/
theorem add_const {Y : Nat → Prop} {g q m : Nat} {nm : By} {most : Nat} {x : Wl} {base : By} {R : List By} {k N T rm : Nat} (b : By) (W : World) (h : LX Y W g q m nm most x base R k N T rm) (hu : x.st.armed = false) (hn : nm.length ≤ 32) (hN : N < 99) (hb : b.length ≤ 60000)
    (hm : most ≤ 1000000000) (hR : R.length ≤ 1000000) (hT : T + b.length + 24 ≤ rm) :
    Calls Tryz.prog 12 #[.pointer (some ⟨g, 0, none⟩), .slice (some ⟨W.heap.size, 0, none⟩) b.length b.length] (W.alloc (.cells (Lib.byteCells b).toArray 5 (b.length, b.length + 1)))
      fun e w' => e = .returned (.int .i64 0) ∧ Kp Y W w' ∧ ∃ x' k', LX Y w' g q m nm most x' base (R ++ [b]) k' (N + 1) (T + b.length + 24) rm ∧ x'.st.armed = false ∧ k ≤ k' ∧ (k' = k ∨ k' = R.length) := by
  have hc := const_rd W b
  refine (add_un b _ _ (h.more hc.2) hu hn hN hb hc.1 (fun _ k hk => by cases hk; exact .inr ⟨Nat.le_refl _, by show W.heap.size < _; rw [World.size_alloc]; omega⟩) hm hR hT).mono ?_
  rintro e w' ⟨rfl, h1, x', k', h2, h3⟩
  exact ⟨rfl, (Kp.of_below hc.2).trans (h1.mono fun k hk => .inl hk), x', k', h2.mono fun k hk => .inl hk, h3⟩
theorem new_py (R : Nat) (w : World) (h : R ≤ 268435456) : Calls Tryz.prog 6 #[.int .i64 (R : Int)] w fun e w' => ∃ q m, e = .returned (.tuple #[.pointer (some ⟨q, 0, none⟩), .int .i64 0]) ∧ PY (fun k => k < w.heap.size) w' q m (newS R) ∧ Below w.heap.size w w' := by
  refine (new_any R (fun _ => .slice none 0 0) w h).mono ?_
  rintro e w' ⟨q, m, rfl, h1, h2, h3, h4⟩
  refine ⟨q, m, rfl, ⟨⟨_, h1, fun k hk hy => ?_⟩, fun k hk => Nat.lt_of_lt_of_le hk h2.size⟩, h2⟩
  rcases hk with rfl | rfl | ⟨f, hf, _⟩
  · omega
  · omega
  · cases hf
theorem rdB_one (w : World) (v : Value) (b : By) (h : Rd w 1 v b.length (Lib.byteCells b)) (hl : b.length ≤ 140737488355000) : RdB (fun _ => True) (w.alloc (.cells #[v] 32)) (.slice (some ⟨w.heap.size, 0, none⟩) 1 1) [b] := by
  refine ⟨[v], rd_one w v 32, fun t u c hu hc => ?_, fun c hc => by rw [List.mem_singleton] at hc; subst hc; exact hl, fun _ _ _ => trivial, fun _ _ _ _ _ _ _ _ => trivial⟩
  have ht : t = 0 := by have := (List.getElem?_eq_some_iff.1 hu).1; simp at this; exact this
  subst ht
  cases hu
  cases hc
  exact h.below ((Below.refl _ _).alloc (Nat.le_refl _) _)
set_option maxHeartbeats 8000000 in
theorem known_any (w : World) : Calls Tryz.prog 8 #[] w fun e w' => e = .returned (.bool true) ∧ Below w.heap.size w w' := by
  have HN := Lib.hid (new_py 10000 w (by decide))
  go_enter Tryz.func8, Tryz.ntmps8
  go_wp2_with fail
  refine HN.out.mono ?_
  rintro e w1 ⟨q, m, rfl, hp1, hb1⟩
  have HB1 := Lib.hid hb1
  have HO := Lib.hid (open_new (nm := [119]) (most := 9) (rm := 10000) w1 hp1 (by decide) (by decide) (by decide) (by decide) rfl rfl rfl rfl (by decide))
  clear hp1 hb1 HN
  go_wp2_with fail
  refine HO.out.mono ?_
  rintro e w2 ⟨hk2, g, bv, rv, x, Yc, rfl, hox⟩
  have HX := Lib.hid hox
  have HK2 := Lib.hid hk2
  have ha2 := hox.arm rfl
  have HA2 := Lib.hid ha2
  clear HO hox hk2 ha2
  have hcv := Go.Joins.run_convert_bytes_const_at (P := Tryz.prog) w2 32 5 #[.int .u8 97] 1 1 w2.heap.size rfl Tryz.underlying32 Tryz.underlying5
  have HAD := Lib.hid (add_const [97] w2 HX.out.lx HA2.out (by decide) (by decide) (by decide) (by decide) (by decide) (by decide))
  go_wp2_with fail
  refine HAD.out.mono ?_
  rintro e w3 ⟨rfl, hk3, x3, k3, hx3, ha3, hk31, hk32⟩
  have H3 := Lib.hid (And.intro hk3 (And.intro hx3 ha3))
  clear hk3 hx3 ha3 hk31 hk32 HAD hcv
  go_wp2_with fail
  refine (sync_un w3 H3.out.2.1 H3.out.2.2 (by decide) (by decide)).mono ?_
  rintro e w4 ⟨rfl, hk4, x4, hx4, ha4⟩
  have H4 := Lib.hid (And.intro (H3.out.1.trans hk4) (And.intro hx4 ha4))
  clear hk4 hx4 ha4
  have hcv := Go.Joins.run_convert_bytes_const_at (P := Tryz.prog) w4 32 5 #[.int .u8 98] 1 1 w4.heap.size rfl Tryz.underlying32 Tryz.underlying5
  have HAD := Lib.hid (add_const [98] w4 H4.out.2.1 H4.out.2.2 (by decide) (by decide) (by decide) (by decide) (by decide) (by decide))
  go_wp2_with fail
  refine HAD.out.mono ?_
  rintro e w5 ⟨rfl, hk5, x5, k5, hx5, ha5, hk51, hk52⟩
  have H5 := Lib.hid (And.intro (H4.out.1.trans hk5) (And.intro hx5 (And.intro hk51 hk52)))
  clear hk5 hx5 ha5 hk51 hk52 HAD hcv
  go_wp2_with fail
  refine (crash_lx (.slice none 0 0) [] w5 H5.out.2.1 (Rd.nil _ _) (fun h => absurd h (by decide))).mono ?_
  rintro e w6 ⟨rfl, hk6, st6, m6, hc6, hm61, hm62, hm63⟩
  have hm6 : m6 = 1 := by
    have h1 := hm63 (fun i => by simp [kg])
    have h2 := H5.out.2.2.1
    have h3 := H5.out.2.2.2
    simp at h2 h3
    omega
  subst hm6
  have H6 := Lib.hid (And.intro (H5.out.1.trans hk6) hc6)
  clear hk6 hc6 hm61 hm62 hm63
  go_wp2_with fail
  refine (open_cx (most := 9) w6 H6.out.2 (by decide) (by decide) (by decide) (by decide) (by decide) (by decide)).mono ?_
  rintro e w7 ⟨hk7, g7, bv7, rv7, x7, Yc7, rfl, hox7⟩
  have H7 := Lib.hid (And.intro (H6.out.1.trans (hk7.mono fun k hk => hk)) hox7)
  have hrv := hox7.lg.r.slice
  obtain ⟨ra, rc, e7⟩ := hrv
  subst e7
  have hrl : (([] ++ [[97]] ++ [[98]] : List By).take 1).length = 1 := rfl
  clear hk7 hox7
  have hcv := Go.Joins.run_convert_bytes_const_at (P := Tryz.prog) w7 32 5 #[.int .u8 97] 1 1 w7.heap.size rfl Tryz.underlying32 Tryz.underlying5
  have hcd := const_rd w7 [97]
  have HB8 : Hid (Below w7.heap.size w7 ((w7.alloc (.cells (Lib.byteCells [97]).toArray 5 (1, 2))).alloc (.cells #[.slice (some ⟨w7.heap.size, 0, none⟩) 1 1] 32))) := Lib.hid (hcd.2.alloc hcd.2.size _)
  have HLS := Lib.hid (lists_any [[97]] [[97]] (.slice ra 1 rc) (.slice (some ⟨w7.heap.size + 1, 0, none⟩) 1 1) _ (H7.out.2.lg.r.below HB8.out) (by
    have := rdB_one _ _ [97] hcd.1 (by decide)
    rw [World.size_alloc] at this
    exact this) (by decide))
  have hd1 : decide (([[97]] : List By) = [[97]]) = true := by decide
  rw [hd1] at HLS
  clear hcd hd1 hrl
  go_wp2_with fail
  refine HLS.out.mono ?_
  rintro e w9 ⟨rfl, hb9⟩
  have HX9 := Lib.hid (H7.out.2.lx.below (HB8.out.trans (hb9.mono HB8.out.size)))
  have HK9 : Hid (Below w.heap.size w w9) := Lib.hid (((HB1.out.trans (HK2.out.below HB1.out.size fun k h => h)).trans ((H7.out.1.mono HX.out.sub).below (Nat.le_trans HB1.out.size HK2.out.size) fun k h => h)).trans ((HB8.out.trans (hb9.mono HB8.out.size)).mono (Nat.le_trans HB1.out.size (Nat.le_trans HK2.out.size H7.out.1.size))))
  clear hb9 hcv HLS
  go_wp2_with fail
  refine (count_any g7 q m [119] 9 x7 w9 HX9.out.wa).mono ?_
  rintro e w10 ⟨rfl, rfl⟩
  have hct : ((x7.count : Nat) : Int) = 1 := by rw [HX9.out.lv.count]; rfl
  rw [hct]
  clear hct
  go_wp2_with fail
  go_ret
  exact ⟨rfl, HK9.out⟩
end Go.Proofs.YthofbblgoamipaaGreatDoor.Wa
/- Chapter 1's helpers of the statements: Apart, where the lists lie in blocks of their own (texts' bytes laid anew among them: such a block bears a mark behind its last cell). -/
namespace Go.Proofs.YthofbblgoamipaaGreatDoor.Wa
open Go.RowKit Pt
set_option linter.unusedVariables false
set_option linter.unusedSimpArgs false

/-- block b holds these cells; none of them is frozen -/
def BlkF (W : World) (b : Nat) (t : TypeId) (cs : List Value) : Prop := ∃ fr : Nat × Nat, W.heap[b]? = some (.cells cs.toArray t fr) ∧ (fr = (0, 0) ∨ cs.length ≤ fr.1)
theorem BlkF.of {W : World} {b : Nat} {t : TypeId} {cs : List Value} (h : Blk W b t cs) : BlkF W b t cs := ⟨(0, 0), h, .inl rfl⟩
theorem BlkF.lt {W : World} {b : Nat} {t : TypeId} {cs : List Value} (h : BlkF W b t cs) : b < W.heap.size := by
  obtain ⟨fr, h, _⟩ := h
  exact (Array.getElem?_eq_some_iff.1 h).1
theorem BlkF.cell {W : World} {b : Nat} {t : TypeId} {cs : List Value} (h : BlkF W b t cs) (j : Nat) {v : Value} (hj : cs[j]? = some v) : W.cell? ⟨b, j, none⟩ = some v := by
  obtain ⟨fr, h, _⟩ := h
  rw [Lib.cell_of_heap h]; simpa using hj
theorem BlkF.frozen {W : World} {b : Nat} {t : TypeId} {cs : List Value} (h : BlkF W b t cs) (j : Nat) (hj : j < cs.length) : W.frozen? ⟨b, j, none⟩ = false := by
  obtain ⟨fr, h, hf⟩ := h
  simp only [World.frozen?, h]
  rcases hf with rfl | hf
  · simp
  · simp; omega
theorem BlkF.below {W W' : World} {B b : Nat} {t : TypeId} {cs : List Value} (h : BlkF W b t cs) (hb : Below B W W') (hlt : b < B) : BlkF W' b t cs := by
  obtain ⟨fr, h, hf⟩ := h
  exact ⟨fr, (hb.block b hlt).trans h, hf⟩
theorem BlkF.keep {W W' : World} {b : Nat} {t : TypeId} {cs : List Value} (h : BlkF W b t cs) (hb : W'.heap[b]? = W.heap[b]?) : BlkF W' b t cs := by
  obtain ⟨fr, h, hf⟩ := h
  exact ⟨fr, hb.trans h, hf⟩
theorem BlkF.set {W : World} {b : Nat} {t : TypeId} {cs : List Value} (h : BlkF W b t cs) (j : Nat) (v : Value) : BlkF (W.setCell ⟨b, j, none⟩ v) b t (cs.set j v) := by
  obtain ⟨fr, h, hf⟩ := h
  obtain ⟨hlt, hk⟩ := Array.getElem?_eq_some_iff.1 h
  refine ⟨fr, ?_, by rw [List.length_set]; exact hf⟩
  show (W.heap.modify b _)[b]? = _
  rw [Array.getElem?_eq_getElem (by rw [Array.size_modify]; exact hlt), Array.getElem_modify_self, hk]
  simp
/-- a slice of bytes that has its block for itself: cur is all that the block holds -/
def ApRow (W : World) (v : Value) (cur : List Value) : Prop := (v = .slice none 0 0 ∧ cur = []) ∨ ∃ g n, v = .slice (some ⟨g, 0, none⟩) n cur.length ∧ n ≤ cur.length ∧ BlkF W g 5 cur
theorem ApRow.of_cv {W : World} {B : Nat} {v : Value} {b : By} (h : Cv W B v b) : ∃ cur, ApRow W v cur ∧ cur.length ≤ maxLen := by
  obtain ⟨g, cap, cur, rfl, hB, hh, hn, hm, hs, ht⟩ := h
  have hl : cur.toList.length = cap := by rw [Array.length_toList, hs]
  refine ⟨cur.toList, .inr ⟨g, b.length, by rw [hl], by rw [hl]; exact hn, (cap, cap + 1), by simpa using hh, .inr (by rw [hl]; exact Nat.le_refl _)⟩, by rw [hl]; exact hm⟩
theorem ApRow.keep {W W' : World} {v : Value} {cur : List Value} (h : ApRow W v cur) (hb : ∀ g, v.ownBlock = some g → W'.heap[g]? = W.heap[g]?) : ApRow W' v cur := by
  rcases h with h | ⟨g, n, rfl, hn, hk⟩
  · exact .inl h
  · exact .inr ⟨g, n, rfl, hn, hk.keep (hb g rfl)⟩
/-- the first k are written over -/
def ApAll (W : World) (vs : List Value) (k : Nat) : Prop := ∀ (j : Nat) v, vs[j]? = some v → ∃ cur, ApRow W v cur ∧ cur.length ≤ maxLen ∧ (j < k → cur = List.replicate cur.length (.int .u8 ((j : Int) + 1)))
def ApApart (vs : List Value) : Prop := ∀ (i j : Nat) v u, i ≠ j → vs[i]? = some v → vs[j]? = some u → ∀ g, v.ownBlock = some g → u.ownBlock ≠ some g
theorem rep_set (k : Nat) (x : Value) (cur : List Value) (h : k < cur.length) : (List.replicate k x ++ cur.drop k).set k x = List.replicate (k + 1) x ++ cur.drop (k + 1) := by
  rw [List.set_append_right _ _ (by rw [List.length_replicate]; exact Nat.le_refl _), List.length_replicate, Nat.sub_self, List.drop_eq_getElem_cons h, List.set_cons_zero, List.replicate_succ', List.append_assoc]
  rfl
theorem rep_full (x : Value) (cur : List Value) (n : Nat) (h : cur.length ≤ n) (hn : n ≤ cur.length) : List.replicate n x ++ cur.drop n = List.replicate cur.length x := by
  rw [List.drop_eq_nil_of_le h, List.append_nil, show n = cur.length from by omega]
theorem rd_blt {W : World} {b o n c : Nat} {cs : List Value} (h : Rd W 1 (.slice (some ⟨b, o, none⟩) n c) n cs) (hn : 0 < n) : b < W.heap.size := by
  obtain ⟨b', o', c', e, hc, hcc⟩ := h.pos hn
  cases e
  have hl := h.1
  rw [Nat.mul_one] at hl
  have h0 := hcc 0 (cs[0]'(by omega)) (List.getElem?_eq_getElem (by omega))
  rcases Nat.lt_or_ge b W.heap.size with h' | h'
  · exact h'
  · simp [World.cell?, Array.getElem?_eq_none h'] at h0
theorem u8_conv (k : Nat) (h : k < 200) : IntKind.u8.wrap ((k : Int) + 1) = (k : Int) + 1 := by
  rw [IntKind.wrap_u8]; omega
theorem ApAll.next {W W' : World} {vs : List Value} {k : Nat} {v : Value} {cur : List Value} (h : ApAll W vs k) (hap : ApApart vs) (hv : vs[k]? = some v) (hr : ApRow W' v cur) (hc : cur.length ≤ maxLen) (hx : cur = List.replicate cur.length (.int .u8 ((k : Int) + 1)))
    (hb : ∀ g, v.ownBlock ≠ some g → g < W.heap.size → W'.heap[g]? = W.heap[g]?) : ApAll W' vs (k + 1) := by
  intro j u hj
  by_cases hjk : j = k
  · subst hjk
    rw [hv] at hj
    cases hj
    exact ⟨cur, hr, hc, fun _ => hx⟩
  · obtain ⟨c, h1, h2, h3⟩ := h j u hj
    refine ⟨c, h1.keep (fun g hg => hb g (hap j k u v hjk hj hv g hg) ?_), h2, fun h4 => h3 (by omega)⟩
    rcases h1 with ⟨rfl, _⟩ | ⟨g', n, rfl, _, hk⟩
    · cases hg
    · cases hg; exact hk.lt
/-- the lists' blocks -/
def apF (vs : List Value) (g : Nat) : Prop := ∃ v ∈ vs, v.ownBlock = some g
set_option maxRecDepth 20000 in
set_option maxHeartbeats 4000000 in
theorem apart_any (hb N : Nat) (vs : List Value) (w : World) (hN : vs.length = N) (hn200 : N < 200) (hrd : Rd w 1 (.slice (some ⟨hb, 0, none⟩) N N) N vs)
    (hall : ApAll w vs 0) (hap : ApApart vs) (hBg : ∀ v ∈ vs, ∀ g, v.ownBlock = some g → g ≠ hb) :
    Calls Tryz.prog 19 #[.slice (some ⟨hb, 0, none⟩) N N] w fun e w' => e = .returned (.bool true) ∧ Out (apF vs) w w' := by
  have hbl0 : Out (apF vs) w w := Out.refl _ _
  go_enter Tryz.func19, Tryz.ntmps19
  go_wp2_with fail
  go_loopw [3] (fun i wr => ∃ k : Nat, k ≤ N ∧ i = .int .i64 (k : Int) ∧ Rd wr 1 (.slice (some ⟨hb, 0, none⟩) N N) N vs ∧ ApAll wr vs k ∧ Out (apF vs) w wr) (fun i _ => N - (intOf i).toNat)
  case atStart => exact ⟨0, Nat.zero_le _, rfl, hrd, hall, hbl0⟩
  case round =>
    clear hrd hall hbl0
    obtain ⟨k, hk, rfl, hrd, hall, hbl⟩ := hrel
    by_cases hkn : k < N
    case neg =>
      have t1 : ¬ (k : Int) < (N : Int) := by omega
      obtain rfl : N = k := by omega
      clear hN
      generalize wr = W1 at *
      have HA := Lib.hid (And.intro hrd (And.intro hall hbl))
      clear hrd hall hbl
      go_wp2_with fail
      go_loopw [6] (fun i wr' => ∃ k2 : Nat, k2 ≤ N ∧ i = .int .i64 (k2 : Int) ∧ Below W1.heap.size W1 wr') (fun i _ => N - (intOf i).toNat)
      case atStart => exact ⟨0, Nat.zero_le _, rfl, Below.refl _ _⟩
      case round =>
        obtain ⟨k2, hk2, rfl, hb2⟩ := hrel
        have hrd := HA.out.1.below hb2
        have HX := Lib.hid (HA.out.2.2.trans (Out.of_below (apF vs) hb2) (fun _ _ h => h))
        have H2 := Lib.hid hb2
        clear hb2
        by_cases hkn2 : k2 < N
        case neg =>
          have t2 : ¬ (k2 : Int) < (N : Int) := by omega
          clear hrd
          go_wp2_with fail
          go_ret
          exact ⟨rfl, HX.out⟩
        case pos =>
          have t2 : (k2 : Int) < (N : Int) := by omega
          have t3 := u8_conv k2 (by omega)
          obtain ⟨v, hv⟩ : ∃ v, vs[k2]? = some v := ⟨_, List.getElem?_eq_getElem (by have := HA.out.1.1; omega)⟩
          obtain ⟨b0, o0, c0, e0, hc0, hcc⟩ := hrd.pos (by omega)
          cases e0
          have z1 := hcc k2 v hv
          rw [Nat.zero_add] at z1
          obtain ⟨cur, hrow, hcl, hrep⟩ := HA.out.2.1 k2 v hv
          replace hrep := hrep hkn2
          have hlen : cur.length ≤ 9223372036854775807 := by unfold maxLen at hcl; omega
          clear hrd hcc hc0
          have hrp := Lib.hid hrep
          generalize wr = W2 at *
          rcases hrow with ⟨rfl, hcur⟩ | ⟨g, n, rfl, hng, hblk⟩
          · clear hrp hrep hcur hcl hlen
            go_wp2_with fail
            go_quiet (fail)
            go_wp2_with fail
            go_loopw [8] (fun kk wr' => kk = .int .i64 0 ∧ Below W2.heap.size W2 wr') (fun _ _ => 0)
            case atStart => exact ⟨rfl, below_drewN (Below.refl _ _) _⟩
            case round =>
              obtain ⟨rfl, hb3⟩ := hrel
              have H3 := Lib.hid (H2.out.trans (hb3.mono H2.out.size))
              clear hb3
              go_wp2_with fail
              go_roundw
              case rel => exact ⟨k2 + 1, by omega, by go_num, H3.out⟩
              case measure => simp [intOf]; omega
          · have HBK := Lib.hid (hblk.below H2.out hblk.lt)
            clear hcl hblk hrep
            go_wp2_with fail
            go_quiet (fail)
            go_wp2_with fail
            go_loopw [8] (fun kk wr' => ∃ t : Nat, t ≤ cur.length ∧ kk = .int .i64 (t : Int) ∧ Below W2.heap.size W2 wr') (fun kk _ => cur.length - (intOf kk).toNat)
            case atStart => exact ⟨0, Nat.zero_le _, rfl, below_drewN (Below.refl _ _) _⟩
            case round =>
              obtain ⟨t, ht, rfl, hb3⟩ := hrel
              have hb4 := HBK.out.below hb3 HBK.out.lt
              have H3 := Lib.hid (And.intro hb3 (H2.out.trans (hb3.mono H2.out.size)))
              clear hb3
              by_cases htl : t < cur.length
              case neg =>
                have t4 : ¬ (t : Int) < (cur.length : Int) := by omega
                clear hb4
                go_wp2_with fail
                go_roundw
                case rel => exact ⟨k2 + 1, by omega, by go_num, H3.out.2⟩
                case measure => simp [intOf]; omega
              case pos =>
                have t4 : (t : Int) < (cur.length : Int) := by omega
                have y1 := hb4.cell t (v := .int .u8 ((k2 : Int) + 1)) (by rw [hrp.out, List.getElem?_replicate, if_pos htl])
                obtain ⟨CL, hCL⟩ : ∃ CL, CL = cur.length := ⟨_, rfl⟩
                rw [← hCL] at htl t4 ht hlen hng ⊢
                have HCL := Lib.hid hCL
                clear hb4 hCL
                go_wp2_with fail
                go_roundw
                case rel => exact ⟨t + 1, by omega, by go_num, H3.out.1⟩
                case measure => simp [intOf]; omega
    case pos =>
      have t1 : (k : Int) < (N : Int) := by omega
      obtain ⟨v, hv⟩ : ∃ v, vs[k]? = some v := ⟨_, List.getElem?_eq_getElem (by omega)⟩
      obtain ⟨b0, o0, c0, e0, hc0, hcc⟩ := hrd.pos (by omega)
      cases e0
      have z1 := hcc k v hv
      rw [Nat.zero_add] at z1
      obtain ⟨cur, hrow, hcl, _⟩ := hall k v hv
      have t2 := u8_conv k (by omega)
      generalize wr = W1 at *
      have H := Lib.hid (And.intro hrd (And.intro hall hbl))
      rcases hrow with ⟨rfl, hcur⟩ | ⟨g, n, rfl, hng, hblk⟩
      · clear hrd hall hbl hcc hc0
        clear hcl
        go_wp2_with fail
        go_quiet (fail)
        go_wp2_with fail
        go_loopw [5] (fun kk wr' => kk = .int .i64 0 ∧ Below W1.heap.size W1 wr') (fun _ _ => 0)
        case atStart => exact ⟨rfl, below_drewN (Below.refl _ _) _⟩
        case round =>
          obtain ⟨rfl, hb3⟩ := hrel
          have HR : Hid (Rd wr 1 (.slice (some ⟨hb, 0, none⟩) N N) N vs ∧ ApAll wr vs (k + 1) ∧ Out (apF vs) w wr) := Lib.hid ⟨H.out.1.below hb3, H.out.2.1.next hap hv (.inl ⟨rfl, hcur⟩) (by rw [hcur]; simp [maxLen]) (by rw [hcur]; rfl) (fun g _ hg => hb3.block g hg), H.out.2.2.trans (Out.of_below (apF vs) hb3) (fun _ _ h => h)⟩
          clear hb3
          go_wp2_with fail
          go_roundw
          case rel => exact ⟨k + 1, by omega, by go_num, HR.out⟩
          case measure => simp [intOf]; omega
      · have hgB := hBg _ (List.mem_of_getElem? hv) g rfl
        have hlen : cur.length ≤ 9223372036854775807 := by unfold maxLen at hcl; omega
        have HBK := Lib.hid (And.intro hblk hcl)
        clear hrd hall hbl hcc hc0 hcl hblk
        go_wp2_with fail
        go_quiet (fail)
        go_wp2_with fail
        go_loopw [5] (fun kk wr' => ∃ t : Nat, t ≤ cur.length ∧ kk = .int .i64 (t : Int) ∧ BlkF wr' g 5 (List.replicate t (.int .u8 ((k : Int) + 1)) ++ cur.drop t) ∧ Out (fun x => x = g) W1 wr') (fun kk _ => cur.length - (intOf kk).toNat)
        case atStart => exact ⟨0, Nat.zero_le _, rfl, by rw [List.replicate_zero, List.nil_append, List.drop_zero]; exact HBK.out.1, Out.of_below _ (below_drewN (Below.refl _ _) _)⟩
        case round =>
          obtain ⟨t, ht, rfl, hb3, ho3⟩ := hrel
          by_cases htl : t < cur.length
          case neg =>
            have t4 : ¬ (t : Int) < (cur.length : Int) := by omega
            have hte : List.replicate t (Value.int .u8 ((k : Int) + 1)) ++ cur.drop t = List.replicate cur.length (Value.int .u8 ((k : Int) + 1)) := rep_full _ _ _ (by omega) ht
            rw [hte] at hb3
            have HR : Hid (Rd wr 1 (.slice (some ⟨hb, 0, none⟩) N N) N vs ∧ ApAll wr vs (k + 1) ∧ Out (apF vs) w wr) := Lib.hid ⟨rd_keep H.out.1 (fun x hx => ho3.block x (by cases hx; exact rd_blt H.out.1 (by omega)) (fun e => by cases hx; exact hgB e.symm)),
              H.out.2.1.next hap hv (.inr ⟨g, n, by rw [List.length_replicate], by rw [List.length_replicate]; exact hng, hb3⟩) (by rw [List.length_replicate]; exact HBK.out.2) (by rw [List.length_replicate]) (fun x hx hxl => ho3.block x hxl (fun e => hx (by rw [e]; rfl))),
              H.out.2.2.trans ho3 (fun x _ hx => ⟨_, List.mem_of_getElem? hv, by rw [hx]; rfl⟩)⟩
            clear hb3 ho3
            go_wp2_with fail
            go_roundw
            case rel => exact ⟨k + 1, by omega, by go_num, HR.out⟩
            case measure => simp [intOf]; omega
          case pos =>
            have t4 : (t : Int) < (cur.length : Int) := by omega
            have hl2 : t < (List.replicate t (Value.int .u8 ((k : Int) + 1)) ++ cur.drop t).length := by rw [List.length_append, List.length_replicate, List.length_drop]; omega
            have hfz := hb3.frozen t hl2
            obtain ⟨u, hu⟩ : ∃ u, wr.cell? ⟨g, t, none⟩ = some u := ⟨_, hb3.cell t (List.getElem?_eq_getElem hl2)⟩
            have hset := hb3.set t (.int .u8 ((k : Int) + 1))
            rw [rep_set t _ cur htl] at hset
            have hos := ho3.set ⟨g, t, none⟩ (.int .u8 ((k : Int) + 1)) rfl
            have HR := Lib.hid (And.intro hset hos)
            obtain ⟨CL, hCL⟩ : ∃ CL, CL = cur.length := ⟨_, rfl⟩
            rw [← hCL] at htl t4 ht hlen hng ⊢
            have HCL := Lib.hid hCL
            clear hb3 ho3 hl2 hset hos hCL
            go_wp2_with fail
            go_roundw
            case rel => exact ⟨t + 1, by omega, by go_num, HR.out⟩
            case measure => simp [intOf]; omega
end Go.Proofs.YthofbblgoamipaaGreatDoor.Wa
