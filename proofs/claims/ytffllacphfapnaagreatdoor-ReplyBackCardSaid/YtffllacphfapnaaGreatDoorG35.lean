/-
  Chapter 20: reply.Of in full: an error, a reason's response, or the members that are told. Printed by gen_reply_of.py.
-/
import Derived.Test.YtffllacphfapnaaGreatDoorG34
import Derived.Test.YtffllacphfapnaaGreatDoorG07
import Derived.Deep.RegionHeld3
namespace Go.Proofs.YtffllacphfapnaaGreatDoor.Bk
open Go.RowKit Js Rp
set_option linter.unusedVariables false
set_option linter.unusedSimpArgs false
set_option maxRecDepth 100000

/-- what reply.Of answers -/
def OfR (path sec fam : By) (a : An) (why : Int) (e : Ending) : Prop :=
  e = .returned (.tuple #[rv 0 [], .int .i64 1]) ∨
  (why ≠ 0 ∧ ∃ u : Nat, 1 ≤ u ∧ u ≤ 8 ∧ (((u : Int) = why) ∨ ((why < 1 ∨ 8 < why) ∧ u = 1)) ∧ e = .returned (.tuple #[rv (st u) (bd u), .int .i64 0])) ∨
  (why = 0 ∧ fine path fam a ∧ ∃ s, pr (told path sec fam a) = (s, 0) ∧ e = .returned (.tuple #[rv 200 s, .int .i64 0]))
def anC (a : An) (why : Int) (av : Value) (wait : Bool) : List Value := [.int .i64 why, .int .i64 a.acc, .int .i64 a.ref, av, .string ⟨a.cli.toArray⟩, .string ⟨a.use.toArray⟩, .bool a.act, .bool wait]
def anV (a : An) (why : Int) (av : Value) (wait : Bool) : Value := .agg #[.int .i64 why, .int .i64 a.acc, .int .i64 a.ref, av, .string ⟨a.cli.toArray⟩, .string ⟨a.use.toArray⟩, .bool a.act, .bool wait]
/-- the secret, the command, the answer, the response, in Of's own blocks -/
structure OM (w W : World) (sv : Value) (cc ac : List Value) : Prop where
  s : Blk W w.heap.size 36 [sv]
  c : Blk W (w.heap.size + 1) 39 cc
  a : Blk W (w.heap.size + 2) 41 ac
  r : Blk W (w.heap.size + 3) 23 (rc 0 [])
  b : Below w.heap.size w W
theorem OM.below {w W W' : World} {sv : Value} {cc ac : List Value} (h : OM w W sv cc ac) (hb : Below W.heap.size W W') : OM w W' sv cc ac :=
  ⟨h.s.below hb h.s.lt, h.c.below hb h.c.lt, h.a.below hb h.a.lt, h.r.below hb h.r.lt, h.b.trans (hb.mono h.b.size)⟩
theorem OM.alloc {w W : World} {sv : Value} {cc ac : List Value} (h : OM w W sv cc ac) (o : Obj) : OM w (W.alloc o) sv cc ac :=
  ⟨h.s.alloc o, h.c.alloc o, h.a.alloc o, h.r.alloc o, h.b.alloc h.b.size o⟩
theorem OM.start (w : World) (sv : Value) (cc ac : List Value) : OM w ((((w.alloc (.cells #[sv] 36)).alloc (.cells cc.toArray 39)).alloc (.cells ac.toArray 41)).alloc (.cells #[.int .i64 0, .string ⟨#[]⟩] 23)) sv cc ac := by
  have h0 := Blk.new w 36 [sv]
  have h1 := Blk.new (w.alloc (.cells #[sv] 36)) 39 cc
  have h2 := Blk.new ((w.alloc (.cells #[sv] 36)).alloc (.cells cc.toArray 39)) 41 ac
  have h3 := Blk.new (((w.alloc (.cells #[sv] 36)).alloc (.cells cc.toArray 39)).alloc (.cells ac.toArray 41)) 23 (rc 0 [])
  rw [World.size_alloc] at h1
  rw [World.size_alloc, World.size_alloc] at h2
  rw [World.size_alloc, World.size_alloc, World.size_alloc] at h3
  exact ⟨((h0.alloc _).alloc _).alloc _, (h1.alloc _).alloc _, h2.alloc _, h3, ((((Below.refl _ _).alloc (Nat.le_refl _) _).alloc (by simp) _).alloc (by simp [World.size_alloc]; omega) _).alloc (by simp [World.size_alloc]; omega) _⟩
/-- .. and what is bad (in block q), the scope's member (in block r) -/
structure OD (w W : World) (sv : Value) (cc ac : List Value) (q : Nat) (bd : Int) (m : Nat) (sco : By) : Prop extends OM w W sv cc ac where
  d : Blk W q 43 [.int .i64 bd]
  t : Blk W m 50 (mc (tm nSco sco))
  hq : w.heap.size + 4 ≤ q
  hr : q < m
theorem OD.below {w W W' : World} {sv : Value} {cc ac : List Value} {q m : Nat} {bd : Int} {sco : By} (h : OD w W sv cc ac q bd m sco) (hb : Below W.heap.size W W') : OD w W' sv cc ac q bd m sco :=
  ⟨h.toOM.below hb, h.d.below hb h.d.lt, h.t.below hb h.t.lt, h.hq, h.hr⟩
theorem OD.alloc {w W : World} {sv : Value} {cc ac : List Value} {q m : Nat} {bd : Int} {sco : By} (h : OD w W sv cc ac q bd m sco) (o : Obj) : OD w (W.alloc o) sv cc ac q bd m sco :=
  ⟨h.toOM.alloc o, h.d.alloc o, h.t.alloc o, h.hq, h.hr⟩
theorem OD.drew {w W : World} {sv : Value} {cc ac : List Value} {q m : Nat} {bd : Int} {sco : By} (h : OD w W sv cc ac q bd m sco) : OD w W.drew sv cc ac q bd m sco :=
  ⟨⟨h.s, h.c, h.a, h.r, ⟨h.b.os, h.b.tape, h.b.output, h.b.size, h.b.block⟩⟩, h.d, h.t, h.hq, h.hr⟩
theorem OD.qs {w W W' : World} {sv : Value} {cc ac : List Value} {q m : Nat} {bd bd' : Int} {sco : By} (h : OD w W sv cc ac q bd m sco) (hs : Qs q W W') (hd : Blk W' q 43 [.int .i64 bd']) : OD w W' sv cc ac q bd' m sco :=
  have h1 := h.hq
  have h2 := h.hr
  ⟨⟨hs.blk h.s (by omega), hs.blk h.c (by omega), hs.blk h.a (by omega), hs.blk h.r (by omega), hs.below h.b h.b.size (by omega)⟩, hd, hs.blk h.t (by omega), h.hq, h.hr⟩
theorem errT_zero {t : Se.Tk} {bd : Int} (h : errT t bd = 0) : Se.Right t ∧ bd = 0 := by
  unfold errT at h
  split at h
  · rename_i hR; exact ⟨hR, h⟩
  · cases h
theorem tok_len (sec : By) (k : Int) (fam : By) (ser : Int) : (tok sec k fam ser).length ≤ 1000 := by
  unfold tok Se.mk
  split
  · rename_i h
    have h1 := Se.head_len _ h
    have h2 := (Se.tag_ok sec (Se.head ⟨k, fam, ser⟩)).1
    rw [List.length_append]; omega
  · simp
theorem fit_tm {n x : By} (hn : n.length ≤ 1000) (hx : x.length ≤ 9223372036854775807) : fitM (tm n x) := ⟨by show n.length ≤ _; omega, hx, by show inI 0; unfold inI; decide⟩
theorem fit_bm {n : By} {b : Bool} (hn : n.length ≤ 1000) : fitM (bm n b) := ⟨by show n.length ≤ _; omega, by unfold bm; simp, by show inI 0; unfold inI; decide⟩
theorem sco_len (asc : List By) (h : asc.length ≤ 1000) : (Sc.join (Sc.set asc)).length ≤ 9223372036854775807 := by
  have h1 := Sc.join_len (Sc.set asc) 64 (fun x hx => (Sc.word_len x (Sc.set_word hx)).2)
  have h2 := Sc.set_len asc
  omega
theorem rdm_new (w : World) (l : List Mb) (n : Nat) (hn : n = l.length) : RdM (w.alloc (.cells (mCells l).toArray 50)) (.slice (some ⟨w.heap.size, 0, none⟩) n n) l := by
  subst hn
  refine ⟨mCells_length l, ?_⟩
  by_cases h : l = []
  · subst h; exact .inr ⟨_, 0, 0, rfl, by simp, fun j u hj => by simp [mCells] at hj⟩
  · exact .inr ⟨_, 0, _, rfl, Nat.le_refl _, fun j u hj => by
      have h := cells_new w (mCells l) 50 j u hj
      rw [Addr.add_lit] at h; exact h⟩
theorem hs_exec {P : Program} {ops : Array Oper} {o : Oper} {a : Act} {w w' : World} {v : Value} {K : Act → World → Prop} {Q : Exit → Act → World → Prop} (hw : Region.wanted o (yielded ops a.tmps) = true)
    (hr : (execOp a.eval o).run P w = .ok (.value v) w') (h : K (a.put o.dst v) w') : if Region.wanted o (yielded ops a.tmps) = true then Oper.wp P o a w K Q else K (a.put o.dst undef) w := by
  rw [if_pos hw]
  unfold Oper.wp
  rw [hr]
  exact h
theorem exec_app {P : Program} {o : Oper} {a : Act} (s x : Operand) (t : TypeId) (ho : o.op = .call { callee := .builtin .append, args := #[s, x], argTypes := #[t, t] }) {S X v' : Value} {w w' : World} (hs : a.eval s = S) (hx : a.eval x = X)
    (hr : (Builtin.append_ #[t, t] o.type #[S, X]).run P w = .ok v' w') : (execOp a.eval o).run P w = .ok (.value v') w' := by
  simp only [execOp, ho, resolve, invoke, builtin, Sem.run_bind, Sem.run_pure, Result.andThen_ok, List.map_toArray, List.map_cons, List.map_nil, hs, hx, hr]
theorem own_mb (w : World) (l : List Mb) (n : Nat) (hn : n = l.length) (hm : l.length ≤ 100) : (w.alloc (.cells (mCells l).toArray 50)).ownsRow w.heap.size 50 5 (.slice (some ⟨w.heap.size, 0, none⟩) n n) n (mCells l) := by
  subst hn
  have h5 := mCells_length l
  exact ⟨h5, .inr ⟨w.heap.size, l.length, (mCells l).toArray, rfl, Nat.le_refl _, heap_alloc_new w _, Nat.le_refl _, by unfold maxLen; omega, by simp [h5], by rw [← h5]; simp⟩⟩
theorem mc_app (a b : List Mb) : mCells (a ++ b) = mCells a ++ mCells b := by simp [mCells]
theorem mc_one (l : List Mb) : ∀ u ∈ mCells l, u.oneCell' = true := by
  intro u hu
  unfold mCells at hu
  rw [List.mem_flatMap] at hu
  obtain ⟨m, _, hu⟩ := hu
  unfold mc at hu
  simp only [List.mem_cons, List.not_mem_nil, or_false] at hu
  rcases hu with rfl | rfl | rfl | rfl | rfl <;> rfl
theorem OD.grown {w W W' : World} {sv : Value} {cc ac : List Value} {q m : Nat} {bd : Int} {sco : By} {row : Option Nat} (h : OD w W sv cc ac q bd m sco) (hg : W.grownBy W' row) (hr : ∀ k, row = some k → m < k) : OD w W' sv cc ac q bd m sco :=
  have h1 := h.hq
  have h2 := h.hr
  ⟨⟨h.s.grown hg (fun r e => by have := hr r e; omega), h.c.grown hg (fun r e => by have := hr r e; omega), h.a.grown hg (fun r e => by have := hr r e; omega), h.r.grown hg (fun r e => by have := hr r e; omega), h.b.grown hg h.b.size (fun r e => by have := hr r e; omega)⟩, h.d.grown hg (fun r e => by have := hr r e; omega), h.t.grown hg (fun r e => by have := hr r e; omega), h.hq, h.hr⟩
theorem OD.size {w W : World} {sv : Value} {cc ac : List Value} {q m : Nat} {bd : Int} {sco : By} (h : OD w W sv cc ac q bd m sco) : q < W.heap.size := h.d.lt

set_option maxHeartbeats 8000000 in
theorem of_why (path sec : By) (sv : Value) (c : Gr.Cm) (cv : Value) (a : An) (why : Int) (asc : List By) (av : Value) (wait : Bool) (w : World) (hsv : Rd w 1 sv sec.length (Lib.byteCells sec)) (hl : sec.length ≤ 288230376151711744) (hcs : RdS w cv c.sco) (hc : Gr.CmOk c) (has : RdS w av asc) (hal : asc.length ≤ 1000) (hsco : a.sco = Sc.join (Sc.set asc)) (hcli : a.cli.length ≤ 140737488355000) (huse : a.use.length ≤ 140737488355000) (hL : Hid (LaidB w.heap.size w)) (hw : why ≠ 0) :
    Calls Tryz.prog 14 #[.string ⟨path.toArray⟩, sv, Gr.cmV c cv, anV a why av wait] w fun e w' => OfR path sec c.fam a why e ∧ Below w.heap.size w w' := by
  obtain ⟨kd, fam, ser, tk, cli, usr, sco, red, cha, met, ver, rf, edg⟩ := c
  obtain ⟨asco, acc, ref, act, acli, ause⟩ := a
  have HF := Lib.hid (fun W hb => Gr.fits_any path ⟨kd, fam, ser, tk, cli, usr, sco, red, cha, met, ver, rf, edg⟩ cv W (hcs.below hb) hc)
  have HSV := Lib.hid hsv
  have HA := Lib.hid has
  have HC := Lib.hid hc
  have HLEN := Lib.hid (And.intro hl (And.intro hal (And.intro hsco (And.intro hcli huse))))
  simp only at HLEN
  obtain ⟨sa, sc, e1⟩ := hsv.slice
  subst e1
  obtain ⟨ca, cc, e2⟩ := hcs.1.slice
  obtain ⟨aa, ac, e3⟩ := has.1.slice
  simp only at e2
  obtain ⟨cn, hcn⟩ : ∃ n, n = sco.length := ⟨_, rfl⟩
  obtain ⟨an, han⟩ : ∃ n, n = asc.length := ⟨_, rfl⟩
  obtain ⟨sn, hsn⟩ : ∃ n, n = sec.length := ⟨_, rfl⟩
  rw [← hcn] at e2
  rw [← han] at e3
  subst e2
  subst e3
  have HSN := Lib.hid hsn
  clear hsv hcs has hc hl hal hsco hcli huse hcn han
  have HM0 := Lib.hid (OM.start w (.slice sa sn sc) [.int .i64 kd, .string ⟨fam.toArray⟩, .int .i64 ser, .int .i64 tk, .string ⟨cli.toArray⟩, .string ⟨usr.toArray⟩, .slice ca cn cc, .string ⟨red.toArray⟩, .string ⟨cha.toArray⟩, .string ⟨met.toArray⟩, .string ⟨ver.toArray⟩, .bool rf, .int .i64 edg] [.int .i64 why, .int .i64 acc, .int .i64 ref, .slice aa an ac, .string ⟨acli.toArray⟩, .string ⟨ause.toArray⟩, .bool act, .bool wait])
  rw [← hsn] at HSV ⊢
  clear hsn
  have hmf : ∀ (fn : Fn) (first cap : Array Value) (w : World), (Instr.makeFunc fn first cap).run Tryz.prog w = .ok (.func fn first cap) w := fun _ _ _ _ => rfl
  unfold Gr.cmV at HF ⊢
  unfold anV
  go_enter Tryz.func14, Tryz.ntmps14
  go_wp2_with fail
  refine (HF.out _ HM0.out.b).mono ?_
  rintro e w1 ⟨⟨b, rfl⟩, hb1⟩
  have HM1 := Lib.hid (HM0.out.below hb1)
  clear hb1 HF HM0
  have ew : (why == 0) = false := by rw [beq_eq_false_iff_ne]; exact hw
  have HW := Lib.hid hw
  clear hw
  cases b with
  | false =>
    have y0 := HM1.out.r.cell 0 rfl
    have y1 := HM1.out.r.cell 1 rfl
    have f0 := HM1.out.r.frozen 0
    have f1 := HM1.out.r.frozen 1
    go_wp2_with fail
    try simp only [Exit.inBlock, Exit.then]
    exact ret_rct rfl rfl rfl (rc_set HM1.out.r rfl 0 []) ⟨.inl rfl, below_rc HM1.out.b (by omega) _ _⟩
  | true =>
    have a0 := HM1.out.a.cell 0 rfl
    by_cases hin : 1 ≤ why ∧ why ≤ 8
    case pos =>
      obtain ⟨u, rfl⟩ : ∃ u : Nat, why = (u : Int) := ⟨why.toNat, by omega⟩
      have HFL := Lib.hid (fun W hb => fail_in u (by omega) (by omega) w.heap.size W (Below.size hb) (Lib.hid (hL.out.on hb)))
      have HIN := Lib.hid hin
      clear hin
      go_wp2_with fail
      refine (HFL.out _ HM1.out.b).mono ?_
      rintro e w2 ⟨rfl, hb2⟩
      have HM2 := Lib.hid (HM1.out.below hb2)
      clear hb2 a0
      unfold rv
      have y0 := HM2.out.r.cell 0 rfl
      have y1 := HM2.out.r.cell 1 rfl
      have f0 := HM2.out.r.frozen 0
      have f1 := HM2.out.r.frozen 1
      go_wp2_with fail
      try simp only [Exit.inBlock, Exit.then]
      exact ret_rct rfl rfl rfl (rc_set HM2.out.r rfl _ _) ⟨.inr (.inl ⟨HW.out, u, (by have := HIN.out; omega), (by have := HIN.out; omega), .inl rfl, rfl⟩), below_rc HM2.out.b (by omega) _ _⟩
    case neg =>
      have HFL := Lib.hid (fun W hb => fail_out why (by omega) w.heap.size W (Below.size hb) (Lib.hid (hL.out.on hb)))
      have HIN := Lib.hid hin
      clear hin
      go_wp2_with fail
      refine (HFL.out _ HM1.out.b).mono ?_
      rintro e w2 ⟨rfl, hb2⟩
      have HM2 := Lib.hid (HM1.out.below hb2)
      clear hb2 a0
      unfold rv
      have y0 := HM2.out.r.cell 0 rfl
      have y1 := HM2.out.r.cell 1 rfl
      have f0 := HM2.out.r.frozen 0
      have f1 := HM2.out.r.frozen 1
      go_wp2_with fail
      try simp only [Exit.inBlock, Exit.then]
      exact ret_rct rfl rfl rfl (rc_set HM2.out.r rfl _ _) ⟨.inr (.inl ⟨HW.out, 1, by omega, by omega, .inr ⟨(by have := HIN.out; omega), rfl⟩, rfl⟩), below_rc HM2.out.b (by omega) _ _⟩
set_option maxHeartbeats 8000000 in
theorem of_auth (path sec : By) (sv : Value) (c : Gr.Cm) (cv : Value) (a : An) (why : Int) (asc : List By) (av : Value) (wait : Bool) (w : World) (hsv : Rd w 1 sv sec.length (Lib.byteCells sec)) (hl : sec.length ≤ 288230376151711744) (hcs : RdS w cv c.sco) (hc : Gr.CmOk c) (has : RdS w av asc) (hal : asc.length ≤ 1000) (hsco : a.sco = Sc.join (Sc.set asc)) (hcli : a.cli.length ≤ 140737488355000) (huse : a.use.length ≤ 140737488355000) (hL : Hid (LaidB w.heap.size w)) (hw : why = 0) (hp : path = pAuth) :
    Calls Tryz.prog 14 #[.string ⟨path.toArray⟩, sv, Gr.cmV c cv, anV a why av wait] w fun e w' => OfR path sec c.fam a why e ∧ Below w.heap.size w w' := by
  obtain ⟨kd, fam, ser, tk, cli, usr, sco, red, cha, met, ver, rf, edg⟩ := c
  obtain ⟨asco, acc, ref, act, acli, ause⟩ := a
  have HF := Lib.hid (fun W hb => Gr.fits_any path ⟨kd, fam, ser, tk, cli, usr, sco, red, cha, met, ver, rf, edg⟩ cv W (hcs.below hb) hc)
  have HSV := Lib.hid hsv
  have HA := Lib.hid has
  have HC := Lib.hid hc
  have HLEN := Lib.hid (And.intro hl (And.intro hal (And.intro hsco (And.intro hcli huse))))
  simp only at HLEN
  obtain ⟨sa, sc, e1⟩ := hsv.slice
  subst e1
  obtain ⟨ca, cc, e2⟩ := hcs.1.slice
  obtain ⟨aa, ac, e3⟩ := has.1.slice
  simp only at e2
  obtain ⟨cn, hcn⟩ : ∃ n, n = sco.length := ⟨_, rfl⟩
  obtain ⟨an, han⟩ : ∃ n, n = asc.length := ⟨_, rfl⟩
  obtain ⟨sn, hsn⟩ : ∃ n, n = sec.length := ⟨_, rfl⟩
  rw [← hcn] at e2
  rw [← han] at e3
  subst e2
  subst e3
  have HSN := Lib.hid hsn
  clear hsv hcs has hc hl hal hsco hcli huse hcn han
  have HM0 := Lib.hid (OM.start w (.slice sa sn sc) [.int .i64 kd, .string ⟨fam.toArray⟩, .int .i64 ser, .int .i64 tk, .string ⟨cli.toArray⟩, .string ⟨usr.toArray⟩, .slice ca cn cc, .string ⟨red.toArray⟩, .string ⟨cha.toArray⟩, .string ⟨met.toArray⟩, .string ⟨ver.toArray⟩, .bool rf, .int .i64 edg] [.int .i64 why, .int .i64 acc, .int .i64 ref, .slice aa an ac, .string ⟨acli.toArray⟩, .string ⟨ause.toArray⟩, .bool act, .bool wait])
  rw [← hsn] at HSV ⊢
  clear hsn
  have hmf : ∀ (fn : Fn) (first cap : Array Value) (w : World), (Instr.makeFunc fn first cap).run Tryz.prog w = .ok (.func fn first cap) w := fun _ _ _ _ => rfl
  unfold Gr.cmV at HF ⊢
  unfold anV
  subst hw
  have HP := Lib.hid hp
  clear hp
  go_enter Tryz.func14, Tryz.ntmps14
  go_wp2_with fail
  refine (HF.out _ HM0.out.b).mono ?_
  rintro e w1 ⟨⟨b, rfl⟩, hb1⟩
  have HM1 := Lib.hid (HM0.out.below hb1)
  clear hb1 HF HM0
  cases b with
  | false =>
    have y0 := HM1.out.r.cell 0 rfl
    have y1 := HM1.out.r.cell 1 rfl
    have f0 := HM1.out.r.frozen 0
    have f1 := HM1.out.r.frozen 1
    go_wp2_with fail
    try simp only [Exit.inBlock, Exit.then]
    exact ret_rct rfl rfl rfl (rc_set HM1.out.r rfl 0 []) ⟨.inl rfl, below_rc HM1.out.b (by omega) _ _⟩
  | true =>
  have a0 := HM1.out.a.cell 0 rfl
  have HM2 := Lib.hid (HM1.out.alloc (.cells #[.int .i64 0] 43))
  have a3 := HM2.out.a.cell 3 rfl
  have HD2 := Lib.hid (Blk.new w1 43 [.int .i64 0])
  have HSP := Lib.hid (fun W hb => sprint_any _ asc W (HA.out.below hb) (by have := HLEN.out.2.1; omega))
  have HTX := Lib.hid (fun W => text_any nSco (Sc.join (Sc.set asc)) W)
  unfold nSco at HTX
  rw [← HLEN.out.2.2.1] at HSP HTX
  go_wp2_with fail
  refine (HSP.out _ HM2.out.b).mono ?_
  rintro e w3 ⟨rfl, hb3⟩
  have HM3 := Lib.hid (HM2.out.below hb3)
  have HD3 := Lib.hid (HD2.out.below hb3 HD2.out.lt)
  clear hb3 HM2 HD2 a0 a3 HSP
  go_wp2_with fail
  refine (HTX.out _).mono ?_
  rintro e w4 ⟨rfl, hb4⟩
  have HM4 := Lib.hid (HM3.out.below hb4)
  have HD4 := Lib.hid (HD3.out.below hb4 HD3.out.lt)
  clear hb4 HM3 HD3 HTX
  have HO : Hid (OD w (w4.alloc (.cells #[.string ⟨#[115, 99, 111, 112, 101]⟩, .int .i64 0, .string ⟨asco.toArray⟩, .int .i64 0, .bool false] 50)) (.slice sa sn sc) [.int .i64 kd, .string ⟨fam.toArray⟩, .int .i64 ser, .int .i64 tk, .string ⟨cli.toArray⟩, .string ⟨usr.toArray⟩, .slice ca cn cc, .string ⟨red.toArray⟩, .string ⟨cha.toArray⟩, .string ⟨met.toArray⟩, .string ⟨ver.toArray⟩, .bool rf, .int .i64 edg] [.int .i64 0, .int .i64 acc, .int .i64 ref, .slice aa an ac, .string ⟨acli.toArray⟩, .string ⟨ause.toArray⟩, .bool act, .bool wait] w1.heap.size 0 w4.heap.size asco) := Lib.hid (OD.mk (HM4.out.alloc (.cells (mc (tm nSco asco)).toArray 50)) (HD4.out.alloc _) (Blk.new w4 50 (mc (tm nSco asco))) (by have := HM1.out.r.lt; omega) HD4.out.lt)
  clear HM4 HD4
  have HTC := Lib.hid (fun W => text_any nCode (tok sec 1 fam 0) W)
  unfold nCode mv at HTC
  have hp := HP.out
  subst hp
  clear HP
  unfold pAuth
  unfold mv
  go_wp2_with fail
  refine wp_region_held_drew (S := (fun W => W.cell? ⟨w4.heap.size, 0, none⟩ = some (.string ⟨nSco.toArray⟩) ∧ W.cell? ⟨w4.heap.size, 1, none⟩ = some (.int .i64 0) ∧ W.cell? ⟨w4.heap.size, 2, none⟩ = some (.string ⟨asco.toArray⟩) ∧ W.cell? ⟨w4.heap.size, 3, none⟩ = some (.int .i64 0) ∧ W.cell? ⟨w4.heap.size, 4, none⟩ = some (.bool false))) (by kernel_rfl) ?_ (fun hHeld1 => ?_)
  · exact ⟨HO.out.t.cell 0 rfl, HO.out.t.cell 1 rfl, HO.out.t.cell 2 rfl, HO.out.t.cell 3 rfl, HO.out.t.cell 4 rfl⟩
  refine wpAnyH_take (i := 0) (oi := ?oi1) (v := ?v1) ?hi1 (by kernel_rfl) (by kernel_rfl) (by kernel_rfl) ?hq1 ?hy1 (by assumption) ?rest1
  case hi1 => (simp only [List.getElem?_toArray, List.getElem?_cons_succ, List.getElem?_cons_zero]; rfl)
  case hq1 => exact fun _ _ _ h => h
  case hy1 => (refine Or.inl ⟨by rfl, ?_⟩; intro W hSw; (try dsimp only at hSw); go_simp; (try with_reducible rfl))
  try simp only [Act.put, List.setIfInBounds_toArray, List.set_cons_zero, List.set_cons_succ]
  refine wpAnyH_take (i := 3) (oi := ?oi2) (v := ?v2) ?hi2 (by kernel_rfl) (by kernel_rfl) (by kernel_rfl) ?hq2 ?hy2 (by assumption) ?rest2
  case hi2 => (simp only [List.getElem?_toArray, List.getElem?_cons_succ, List.getElem?_cons_zero]; rfl)
  case hq2 => exact fun _ _ _ h => h
  case hy2 => (refine Or.inl ⟨by rfl, ?_⟩; intro W hSw; (try dsimp only at hSw); go_simp; (try with_reducible rfl))
  try simp only [Act.put, List.setIfInBounds_toArray, List.set_cons_zero, List.set_cons_succ]
  refine wpAnyH_ready (rs := [1]) (by kernel_rfl) (by simp) ?_
  refine AllReadyH.cons (o := ?oi3) ?hi3 (fun K hK => ?hs3) AllReadyH.nil
  case hi3 => (simp only [List.getElem?_toArray, List.getElem?_cons_succ, List.getElem?_cons_zero]; rfl)
  go_simp
  refine (tok_any 1 0 (.slice sa sn sc) sec fam w.heap.size (w.heap.size + 1) w1.heap.size _ (0) _ HO.out.drew.s HO.out.drew.c rfl HO.out.drew.d (by rw [← HSN.out]; exact HSV.out.below HO.out.drew.b) HLEN.out.1 HC.out.fam (Lib.hid ((hL.out.on HO.out.drew.b).mono HO.out.drew.b.size))).mono ?_
  rintro e w6 ⟨rfl, hq6, hd6⟩
  have HO6 := Lib.hid (HO.out.drew.qs hq6 hd6)
  go_wp2_with fail
  refine hK.out _ _ ?_ (fun hHeld2 => ?_)
  · exact ⟨HO6.out.t.cell 0 rfl, HO6.out.t.cell 1 rfl, HO6.out.t.cell 2 rfl, HO6.out.t.cell 3 rfl, HO6.out.t.cell 4 rfl⟩
  clear hK
  try simp only [Act.put, List.setIfInBounds_toArray, List.set_cons_zero, List.set_cons_succ]
  refine wpAnyH_ready (rs := [2]) (by kernel_rfl) (by simp) ?_
  refine AllReadyH.cons (o := ?oi4) ?hi4 (fun K hK => ?hs4) AllReadyH.nil
  case hi4 => (simp only [List.getElem?_toArray, List.getElem?_cons_succ, List.getElem?_cons_zero]; rfl)
  go_simp
  refine (HTC.out _).mono ?_
  rintro e w7 ⟨rfl, hb7⟩
  have HO7 := Lib.hid (HO6.out.below hb7)
  go_wp2_with fail
  refine hK.out _ _ ?_ (fun hHeld2 => ?_)
  · exact ⟨HO7.out.t.cell 0 rfl, HO7.out.t.cell 1 rfl, HO7.out.t.cell 2 rfl, HO7.out.t.cell 3 rfl, HO7.out.t.cell 4 rfl⟩
  clear hK
  try simp only [Act.put, List.setIfInBounds_toArray, List.set_cons_zero, List.set_cons_succ]
  refine wpAnyH_ready (rs := [4]) (by kernel_rfl) (by simp) ?_
  refine AllReadyH.cons (o := ?oi5) ?hi5 (fun K hK => ?hs5) AllReadyH.nil
  case hi5 => (simp only [List.getElem?_toArray, List.getElem?_cons_succ, List.getElem?_cons_zero]; rfl)
  go_simp
  have HO8 := Lib.hid (HO7.out.alloc (.cells (mCells [tm nCode (tok sec 1 fam 0), tm nSco asco]).toArray 50))
  have HRD := Lib.hid (rdm_new w7 [tm nCode (tok sec 1 fam 0), tm nSco asco] 2 rfl)
  have HFIT : Hid (fitL [tm nCode (tok sec 1 fam 0), tm nSco asco]) := Lib.hid (fun m hm => by
    simp only [List.mem_cons, List.not_mem_nil, or_false] at hm
    rcases hm with rfl | rfl
    · exact fit_tm (by decide) (by have := tok_len sec 1 fam 0; omega)
    · exact fit_tm (by decide) (by rw [HLEN.out.2.2.1]; exact sco_len asc HLEN.out.2.1))
  refine hK.out _ _ ?_ (fun hHeld3 => ?_)
  · exact ⟨HO8.out.t.cell 0 rfl, HO8.out.t.cell 1 rfl, HO8.out.t.cell 2 rfl, HO8.out.t.cell 3 rfl, HO8.out.t.cell 4 rfl⟩
  clear hK
  try simp only [Act.put, List.setIfInBounds_toArray, List.set_cons_zero, List.set_cons_succ]
  refine wpAnyH_take (i := 5) (oi := ?oi6) (v := ?v6) ?hi6 (by kernel_rfl) (by kernel_rfl) (by kernel_rfl) ?hq6 ?hy6 (by assumption) ?rest6
  case hi6 => (simp only [List.getElem?_toArray, List.getElem?_cons_succ, List.getElem?_cons_zero]; rfl)
  case hq6 => exact fun _ _ _ h => h
  case hy6 => (refine Or.inl ⟨by rfl, ?_⟩; intro W hSw; (try dsimp only at hSw); go_simp; (try with_reducible rfl))
  try simp only [Act.put, List.setIfInBounds_toArray, List.set_cons_zero, List.set_cons_succ]
  refine wpAnyH_done (by kernel_rfl) ?_ _
  clear hHeld1 hHeld2 hHeld3 hq6 hd6 hb7
  obtain ⟨l, hll⟩ : ∃ l, l = [tm nCode (tok sec 1 fam 0), tm nSco asco] := ⟨_, rfl⟩
  have HLL := Lib.hid hll
  have HTO : Hid (told pAuth sec fam ⟨asco, acc, ref, act, acli, ause⟩ = l) := Lib.hid (by rw [hll]; rfl)
  have HPR := Lib.hid (print_any _ l _ (by rw [hll]; exact HRD.out) (Lib.hid (by rw [hll]; exact HFIT.out)) (by rw [hll]; simp) (Lib.hid (hL.out.on HO8.out.b).tab.here))
  obtain ⟨s, hs⟩ : ∃ s, s = (pr l).1 := ⟨_, rfl⟩
  obtain ⟨pe, hpe⟩ : ∃ s, s = (pr l).2 := ⟨_, rfl⟩
  rw [← hs, ← hpe] at HPR
  have HS := Lib.hid (And.intro hs hpe)
  clear hs hpe hll HRD HFIT
  go_wp2_with fail
  refine HPR.out.mono ?_
  rintro e w20 ⟨rfl, hb20⟩
  have HO20 := Lib.hid (HO8.out.below hb20)
  clear hb20 HPR
  obtain ⟨E, hE⟩ : ∃ E, E = errT ⟨1, fam, 0⟩ 0 := ⟨_, rfl⟩
  have HE := Lib.hid hE
  rw [← hE] at HO20
  clear hE
  have d0 := HO20.out.d.cell 0 rfl
  have y0 := HO20.out.r.cell 0 rfl
  have f0 := HO20.out.r.frozen 0
  have y1 := HO20.out.r.cell 1 rfl
  have f1 := HO20.out.r.frozen 1
  by_cases hz : pe = 0
  case neg =>
    have z1 : (pe == 0) = false := by rw [beq_eq_false_iff_ne]; exact hz
    go_wp2_with fail
    try simp only [Exit.inBlock, Exit.then]
    exact ret_rct rfl rfl rfl (rc_set HO20.out.r rfl 0 []) ⟨.inl rfl, below_rc HO20.out.b (by omega) _ _⟩
  case pos =>
  subst hz
  by_cases hz : E = 0
  case neg =>
    have z1 : (E == 0) = false := by rw [beq_eq_false_iff_ne]; exact hz
    go_wp2_with fail
    try simp only [Exit.inBlock, Exit.then]
    exact ret_rct rfl rfl rfl (rc_set HO20.out.r rfl 0 []) ⟨.inl rfl, below_rc HO20.out.b (by omega) _ _⟩
  case pos =>
  subst hz
  go_wp2_with fail
  try simp only [Exit.inBlock, Exit.then]
  refine ret_rct rfl rfl rfl (rc_set HO20.out.r rfl 200 s) ⟨.inr (.inr ⟨rfl, ?_, s, ?_, rfl⟩), below_rc HO20.out.b (by omega) _ _⟩
  · have hE := HE.out
    exact ⟨fun _ => (errT_zero hE.symm).1, fun h => absurd h (by decide)⟩
  · have h1 := HTO.out
    refine (congrArg pr h1).trans ?_
    rw [HS.out.1, show (0 : Int) = (pr l).2 from HS.out.2]
set_option maxHeartbeats 8000000 in
theorem of_tok (path sec : By) (sv : Value) (c : Gr.Cm) (cv : Value) (a : An) (why : Int) (asc : List By) (av : Value) (wait : Bool) (w : World) (hsv : Rd w 1 sv sec.length (Lib.byteCells sec)) (hl : sec.length ≤ 288230376151711744) (hcs : RdS w cv c.sco) (hc : Gr.CmOk c) (has : RdS w av asc) (hal : asc.length ≤ 1000) (hsco : a.sco = Sc.join (Sc.set asc)) (hcli : a.cli.length ≤ 140737488355000) (huse : a.use.length ≤ 140737488355000) (hL : Hid (LaidB w.heap.size w)) (hw : why = 0) (hp : path = pTok) :
    Calls Tryz.prog 14 #[.string ⟨path.toArray⟩, sv, Gr.cmV c cv, anV a why av wait] w fun e w' => OfR path sec c.fam a why e ∧ Below w.heap.size w w' := by
  obtain ⟨kd, fam, ser, tk, cli, usr, sco, red, cha, met, ver, rf, edg⟩ := c
  obtain ⟨asco, acc, ref, act, acli, ause⟩ := a
  have HF := Lib.hid (fun W hb => Gr.fits_any path ⟨kd, fam, ser, tk, cli, usr, sco, red, cha, met, ver, rf, edg⟩ cv W (hcs.below hb) hc)
  have HSV := Lib.hid hsv
  have HA := Lib.hid has
  have HC := Lib.hid hc
  have HLEN := Lib.hid (And.intro hl (And.intro hal (And.intro hsco (And.intro hcli huse))))
  simp only at HLEN
  obtain ⟨sa, sc, e1⟩ := hsv.slice
  subst e1
  obtain ⟨ca, cc, e2⟩ := hcs.1.slice
  obtain ⟨aa, ac, e3⟩ := has.1.slice
  simp only at e2
  obtain ⟨cn, hcn⟩ : ∃ n, n = sco.length := ⟨_, rfl⟩
  obtain ⟨an, han⟩ : ∃ n, n = asc.length := ⟨_, rfl⟩
  obtain ⟨sn, hsn⟩ : ∃ n, n = sec.length := ⟨_, rfl⟩
  rw [← hcn] at e2
  rw [← han] at e3
  subst e2
  subst e3
  have HSN := Lib.hid hsn
  clear hsv hcs has hc hl hal hsco hcli huse hcn han
  have HM0 := Lib.hid (OM.start w (.slice sa sn sc) [.int .i64 kd, .string ⟨fam.toArray⟩, .int .i64 ser, .int .i64 tk, .string ⟨cli.toArray⟩, .string ⟨usr.toArray⟩, .slice ca cn cc, .string ⟨red.toArray⟩, .string ⟨cha.toArray⟩, .string ⟨met.toArray⟩, .string ⟨ver.toArray⟩, .bool rf, .int .i64 edg] [.int .i64 why, .int .i64 acc, .int .i64 ref, .slice aa an ac, .string ⟨acli.toArray⟩, .string ⟨ause.toArray⟩, .bool act, .bool wait])
  rw [← hsn] at HSV ⊢
  clear hsn
  have hmf : ∀ (fn : Fn) (first cap : Array Value) (w : World), (Instr.makeFunc fn first cap).run Tryz.prog w = .ok (.func fn first cap) w := fun _ _ _ _ => rfl
  unfold Gr.cmV at HF ⊢
  unfold anV
  subst hw
  have HP := Lib.hid hp
  clear hp
  go_enter Tryz.func14, Tryz.ntmps14
  go_wp2_with fail
  refine (HF.out _ HM0.out.b).mono ?_
  rintro e w1 ⟨⟨b, rfl⟩, hb1⟩
  have HM1 := Lib.hid (HM0.out.below hb1)
  clear hb1 HF HM0
  cases b with
  | false =>
    have y0 := HM1.out.r.cell 0 rfl
    have y1 := HM1.out.r.cell 1 rfl
    have f0 := HM1.out.r.frozen 0
    have f1 := HM1.out.r.frozen 1
    go_wp2_with fail
    try simp only [Exit.inBlock, Exit.then]
    exact ret_rct rfl rfl rfl (rc_set HM1.out.r rfl 0 []) ⟨.inl rfl, below_rc HM1.out.b (by omega) _ _⟩
  | true =>
  have a0 := HM1.out.a.cell 0 rfl
  have HM2 := Lib.hid (HM1.out.alloc (.cells #[.int .i64 0] 43))
  have a3 := HM2.out.a.cell 3 rfl
  have HD2 := Lib.hid (Blk.new w1 43 [.int .i64 0])
  have HSP := Lib.hid (fun W hb => sprint_any _ asc W (HA.out.below hb) (by have := HLEN.out.2.1; omega))
  have HTX := Lib.hid (fun W => text_any nSco (Sc.join (Sc.set asc)) W)
  unfold nSco at HTX
  rw [← HLEN.out.2.2.1] at HSP HTX
  go_wp2_with fail
  refine (HSP.out _ HM2.out.b).mono ?_
  rintro e w3 ⟨rfl, hb3⟩
  have HM3 := Lib.hid (HM2.out.below hb3)
  have HD3 := Lib.hid (HD2.out.below hb3 HD2.out.lt)
  clear hb3 HM2 HD2 a0 a3 HSP
  go_wp2_with fail
  refine (HTX.out _).mono ?_
  rintro e w4 ⟨rfl, hb4⟩
  have HM4 := Lib.hid (HM3.out.below hb4)
  have HD4 := Lib.hid (HD3.out.below hb4 HD3.out.lt)
  clear hb4 HM3 HD3 HTX
  have HO : Hid (OD w (w4.alloc (.cells #[.string ⟨#[115, 99, 111, 112, 101]⟩, .int .i64 0, .string ⟨asco.toArray⟩, .int .i64 0, .bool false] 50)) (.slice sa sn sc) [.int .i64 kd, .string ⟨fam.toArray⟩, .int .i64 ser, .int .i64 tk, .string ⟨cli.toArray⟩, .string ⟨usr.toArray⟩, .slice ca cn cc, .string ⟨red.toArray⟩, .string ⟨cha.toArray⟩, .string ⟨met.toArray⟩, .string ⟨ver.toArray⟩, .bool rf, .int .i64 edg] [.int .i64 0, .int .i64 acc, .int .i64 ref, .slice aa an ac, .string ⟨acli.toArray⟩, .string ⟨ause.toArray⟩, .bool act, .bool wait] w1.heap.size 0 w4.heap.size asco) := Lib.hid (OD.mk (HM4.out.alloc (.cells (mc (tm nSco asco)).toArray 50)) (HD4.out.alloc _) (Blk.new w4 50 (mc (tm nSco asco))) (by have := HM1.out.r.lt; omega) HD4.out.lt)
  clear HM4 HD4
  obtain ⟨i0, hi, hz0, hz1, hz2⟩ := info_parts mb_row
  have HTC := Lib.hid (fun W => text_any nAcc (tok sec 2 fam acc) W)
  unfold nAcc mv at HTC
  have HTR := Lib.hid (fun W => text_any nRef (tok sec 3 fam ref) W)
  unfold nRef mv at HTR
  have HTB := Lib.hid (fun W => text_any nTyp nBea W)
  unfold nTyp nBea mv at HTB
  have hp := HP.out
  subst hp
  clear HP
  unfold pTok
  unfold mv
  have a1 := HO.out.a.cell 1 rfl
  go_wp2_with fail
  refine (tok_any 2 acc (.slice sa sn sc) sec fam w.heap.size (w.heap.size + 1) w1.heap.size _ (0) _ HO.out.s HO.out.c rfl HO.out.d (by rw [← HSN.out]; exact HSV.out.below HO.out.b) HLEN.out.1 HC.out.fam (Lib.hid ((hL.out.on HO.out.b).mono HO.out.b.size))).mono ?_
  rintro e w6 ⟨rfl, hq6, hd6⟩
  have HO6 := Lib.hid (HO.out.qs hq6 hd6)
  clear hq6 hd6 a1
  go_wp2_with fail
  refine (HTC.out _).mono ?_
  rintro e w7 ⟨rfl, hb7⟩
  have HO7 := Lib.hid (HO6.out.below hb7)
  clear hb7
  go_wp2_with fail
  refine (HTB.out _).mono ?_
  rintro e w8 ⟨rfl, hb8⟩
  have HO8 := Lib.hid (HO7.out.below hb8)
  clear hb8 HTC HTB
  have HO9 : Hid (OD w (w8.alloc (.cells #[.string ⟨#[97, 99, 99, 101, 115, 115, 95, 116, 111, 107, 101, 110]⟩, .int .i64 0, .string ⟨(tok sec 2 fam acc).toArray⟩, .int .i64 0, .bool false, .string ⟨#[116, 111, 107, 101, 110, 95, 116, 121, 112, 101]⟩, .int .i64 0, .string ⟨#[66, 101, 97, 114, 101, 114]⟩, .int .i64 0, .bool false] 50)) (.slice sa sn sc) [.int .i64 kd, .string ⟨fam.toArray⟩, .int .i64 ser, .int .i64 tk, .string ⟨cli.toArray⟩, .string ⟨usr.toArray⟩, .slice ca cn cc, .string ⟨red.toArray⟩, .string ⟨cha.toArray⟩, .string ⟨met.toArray⟩, .string ⟨ver.toArray⟩, .bool rf, .int .i64 edg] [.int .i64 0, .int .i64 acc, .int .i64 ref, .slice aa an ac, .string ⟨acli.toArray⟩, .string ⟨ause.toArray⟩, .bool act, .bool wait] w1.heap.size (errT ⟨2, fam, acc⟩ 0) w4.heap.size asco) := Lib.hid (HO8.out.alloc _)
  have HOW : Hid ((w8.alloc (.cells #[.string ⟨#[97, 99, 99, 101, 115, 115, 95, 116, 111, 107, 101, 110]⟩, .int .i64 0, .string ⟨(tok sec 2 fam acc).toArray⟩, .int .i64 0, .bool false, .string ⟨#[116, 111, 107, 101, 110, 95, 116, 121, 112, 101]⟩, .int .i64 0, .string ⟨#[66, 101, 97, 114, 101, 114]⟩, .int .i64 0, .bool false] 50)).ownsRow w8.heap.size 50 5 (.slice (some ⟨w8.heap.size, 0, none⟩) 2 2) 2 (mCells [tm nAcc (tok sec 2 fam acc), tm nTyp nBea])) := Lib.hid (own_mb w8 [tm nAcc (tok sec 2 fam acc), tm nTyp nBea] 2 rfl (by simp))
  have a2 : (w8.alloc (.cells #[.string ⟨#[97, 99, 99, 101, 115, 115, 95, 116, 111, 107, 101, 110]⟩, .int .i64 0, .string ⟨(tok sec 2 fam acc).toArray⟩, .int .i64 0, .bool false, .string ⟨#[116, 111, 107, 101, 110, 95, 116, 121, 112, 101]⟩, .int .i64 0, .string ⟨#[66, 101, 97, 114, 101, 114]⟩, .int .i64 0, .bool false] 50)).cell? ⟨w.heap.size + 2, 2, none⟩ = some (.int .i64 ref) := HO9.out.a.cell 2 rfl
  have HLT : Hid (w4.heap.size < w8.heap.size ∧ w1.heap.size < w8.heap.size) := Lib.hid ⟨HO8.out.t.lt, HO8.out.d.lt⟩
  by_cases hr : ref = 0
  case pos =>
    have HREF := Lib.hid hr
    subst hr
    have t0 : (w8.alloc (.cells #[.string ⟨#[97, 99, 99, 101, 115, 115, 95, 116, 111, 107, 101, 110]⟩, .int .i64 0, .string ⟨(tok sec 2 fam acc).toArray⟩, .int .i64 0, .bool false, .string ⟨#[116, 111, 107, 101, 110, 95, 116, 121, 112, 101]⟩, .int .i64 0, .string ⟨#[66, 101, 97, 114, 101, 114]⟩, .int .i64 0, .bool false] 50)).cell? ⟨w4.heap.size, 0, none⟩ = some (.string ⟨#[115, 99, 111, 112, 101]⟩) := HO9.out.t.cell 0 rfl
    have t1 : (w8.alloc (.cells #[.string ⟨#[97, 99, 99, 101, 115, 115, 95, 116, 111, 107, 101, 110]⟩, .int .i64 0, .string ⟨(tok sec 2 fam acc).toArray⟩, .int .i64 0, .bool false, .string ⟨#[116, 111, 107, 101, 110, 95, 116, 121, 112, 101]⟩, .int .i64 0, .string ⟨#[66, 101, 97, 114, 101, 114]⟩, .int .i64 0, .bool false] 50)).cell? ⟨w4.heap.size, 1, none⟩ = some (.int .i64 0) := HO9.out.t.cell 1 rfl
    have t2 : (w8.alloc (.cells #[.string ⟨#[97, 99, 99, 101, 115, 115, 95, 116, 111, 107, 101, 110]⟩, .int .i64 0, .string ⟨(tok sec 2 fam acc).toArray⟩, .int .i64 0, .bool false, .string ⟨#[116, 111, 107, 101, 110, 95, 116, 121, 112, 101]⟩, .int .i64 0, .string ⟨#[66, 101, 97, 114, 101, 114]⟩, .int .i64 0, .bool false] 50)).cell? ⟨w4.heap.size, 2, none⟩ = some (.string ⟨asco.toArray⟩) := HO9.out.t.cell 2 rfl
    have t3 : (w8.alloc (.cells #[.string ⟨#[97, 99, 99, 101, 115, 115, 95, 116, 111, 107, 101, 110]⟩, .int .i64 0, .string ⟨(tok sec 2 fam acc).toArray⟩, .int .i64 0, .bool false, .string ⟨#[116, 111, 107, 101, 110, 95, 116, 121, 112, 101]⟩, .int .i64 0, .string ⟨#[66, 101, 97, 114, 101, 114]⟩, .int .i64 0, .bool false] 50)).cell? ⟨w4.heap.size, 3, none⟩ = some (.int .i64 0) := HO9.out.t.cell 3 rfl
    have t4 : (w8.alloc (.cells #[.string ⟨#[97, 99, 99, 101, 115, 115, 95, 116, 111, 107, 101, 110]⟩, .int .i64 0, .string ⟨(tok sec 2 fam acc).toArray⟩, .int .i64 0, .bool false, .string ⟨#[116, 111, 107, 101, 110, 95, 116, 121, 112, 101]⟩, .int .i64 0, .string ⟨#[66, 101, 97, 114, 101, 114]⟩, .int .i64 0, .bool false] 50)).cell? ⟨w4.heap.size, 4, none⟩ = some (.bool false) := HO9.out.t.cell 4 rfl
    have HO10 : Hid (OD w ((w8.alloc (.cells #[.string ⟨#[97, 99, 99, 101, 115, 115, 95, 116, 111, 107, 101, 110]⟩, .int .i64 0, .string ⟨(tok sec 2 fam acc).toArray⟩, .int .i64 0, .bool false, .string ⟨#[116, 111, 107, 101, 110, 95, 116, 121, 112, 101]⟩, .int .i64 0, .string ⟨#[66, 101, 97, 114, 101, 114]⟩, .int .i64 0, .bool false] 50)).alloc (.cells #[.string ⟨#[115, 99, 111, 112, 101]⟩, .int .i64 0, .string ⟨asco.toArray⟩, .int .i64 0, .bool false] 50)) (.slice sa sn sc) [.int .i64 kd, .string ⟨fam.toArray⟩, .int .i64 ser, .int .i64 tk, .string ⟨cli.toArray⟩, .string ⟨usr.toArray⟩, .slice ca cn cc, .string ⟨red.toArray⟩, .string ⟨cha.toArray⟩, .string ⟨met.toArray⟩, .string ⟨ver.toArray⟩, .bool rf, .int .i64 edg] [.int .i64 0, .int .i64 acc, .int .i64 0, .slice aa an ac, .string ⟨acli.toArray⟩, .string ⟨ause.toArray⟩, .bool act, .bool wait] w1.heap.size (errT ⟨2, fam, acc⟩ 0) w4.heap.size asco) := Lib.hid (HO9.out.alloc _)
    have HOW10 : Hid (((w8.alloc (.cells #[.string ⟨#[97, 99, 99, 101, 115, 115, 95, 116, 111, 107, 101, 110]⟩, .int .i64 0, .string ⟨(tok sec 2 fam acc).toArray⟩, .int .i64 0, .bool false, .string ⟨#[116, 111, 107, 101, 110, 95, 116, 121, 112, 101]⟩, .int .i64 0, .string ⟨#[66, 101, 97, 114, 101, 114]⟩, .int .i64 0, .bool false] 50)).alloc (.cells #[.string ⟨#[115, 99, 111, 112, 101]⟩, .int .i64 0, .string ⟨asco.toArray⟩, .int .i64 0, .bool false] 50)).ownsRow w8.heap.size 50 5 (.slice (some ⟨w8.heap.size, 0, none⟩) 2 2) 2 (mCells [tm nAcc (tok sec 2 fam acc), tm nTyp nBea])) := Lib.hid (own_below HOW.out ((Below.refl _ _).alloc (Nat.le_refl _) _))
    have HRX : Hid (Rd ((w8.alloc (.cells #[.string ⟨#[97, 99, 99, 101, 115, 115, 95, 116, 111, 107, 101, 110]⟩, .int .i64 0, .string ⟨(tok sec 2 fam acc).toArray⟩, .int .i64 0, .bool false, .string ⟨#[116, 111, 107, 101, 110, 95, 116, 121, 112, 101]⟩, .int .i64 0, .string ⟨#[66, 101, 97, 114, 101, 114]⟩, .int .i64 0, .bool false] 50)).alloc (.cells #[.string ⟨#[115, 99, 111, 112, 101]⟩, .int .i64 0, .string ⟨asco.toArray⟩, .int .i64 0, .bool false] 50)) 5 (.slice (some ⟨w8.heap.size + 1, 0, none⟩) 1 1) 1 (mCells [tm nSco asco])) := Lib.hid (by have h := rdm_new (w8.alloc (.cells #[.string ⟨#[97, 99, 99, 101, 115, 115, 95, 116, 111, 107, 101, 110]⟩, .int .i64 0, .string ⟨(tok sec 2 fam acc).toArray⟩, .int .i64 0, .bool false, .string ⟨#[116, 111, 107, 101, 110, 95, 116, 121, 112, 101]⟩, .int .i64 0, .string ⟨#[66, 101, 97, 114, 101, 114]⟩, .int .i64 0, .bool false] 50)) [tm nSco asco] 1 rfl; rw [World.size_alloc] at h; exact h)
    have HS10 : w8.heap.size ≤ ((w8.alloc (.cells #[.string ⟨#[97, 99, 99, 101, 115, 115, 95, 116, 111, 107, 101, 110]⟩, .int .i64 0, .string ⟨(tok sec 2 fam acc).toArray⟩, .int .i64 0, .bool false, .string ⟨#[116, 111, 107, 101, 110, 95, 116, 121, 112, 101]⟩, .int .i64 0, .string ⟨#[66, 101, 97, 114, 101, 114]⟩, .int .i64 0, .bool false] 50)).alloc (.cells #[.string ⟨#[115, 99, 111, 112, 101]⟩, .int .i64 0, .string ⟨asco.toArray⟩, .int .i64 0, .bool false] 50)).heap.size := by simp; omega
    go_wp2_with (at_builtin; go_loud (refine wpList_app rfl (.tmp 60) (.tmp 62) 46 rfl 50 w8.heap.size i0 (.agg #[.string ⟨#[]⟩, .int .i64 0, .string ⟨#[]⟩, .int .i64 0, .bool false]) 5 56 Tryz.underlying46 hi hz0 hz1 hz2 rfl (by decide) _ 2 (mCells [tm nAcc (tok sec 2 fam acc), tm nTyp nBea]) rfl HOW10.out _ 1 (mCells [tm nSco asco]) rfl HRX.out (mc_one _) (by unfold maxLen; omega) (by omega) HS10 ?_))
    intro v20 w16 ho16 hg16 _
    have HO16 := Lib.hid (HO10.out.grown hg16 (fun k hk => by cases hk; exact HLT.out.1))
    have HRD : Hid (RdM w16 v20 ([tm nAcc (tok sec 2 fam acc), tm nTyp nBea] ++ [tm nSco asco])) := Lib.hid (by have h := Rd.of_own ho16; rw [← mc_app] at h; exact h)
    obtain ⟨va, vc, hv⟩ := (Rd.of_own ho16).slice
    subst hv
    have HFIT : Hid (fitL ([tm nAcc (tok sec 2 fam acc), tm nTyp nBea] ++ [tm nSco asco])) := Lib.hid (fun m hm => by
      simp only [List.mem_cons, List.mem_append, List.cons_append, List.nil_append, List.not_mem_nil, or_false] at hm
      rcases hm with rfl | rfl | rfl
      · exact fit_tm (by decide) (by have := tok_len sec 2 fam acc; omega)
      · exact fit_tm (by decide) (by decide)
      · exact fit_tm (by decide) (by rw [HLEN.out.2.2.1]; exact sco_len asc HLEN.out.2.1))
    clear ho16 hg16 HS10 a2 t0 t1 t2 t3 t4
    obtain ⟨l, hll⟩ : ∃ l, l = [tm nAcc (tok sec 2 fam acc), tm nTyp nBea] ++ [tm nSco asco] := ⟨_, rfl⟩
    have HLL := Lib.hid hll
    have HTO : Hid (told pTok sec fam ⟨asco, acc, 0, act, acli, ause⟩ = l) := Lib.hid (by rw [hll]; rfl)
    have HPR := Lib.hid (print_any _ l _ (by rw [hll]; exact HRD.out) (Lib.hid (by rw [hll]; exact HFIT.out)) (by rw [hll]; simp) (Lib.hid (hL.out.on HO16.out.b).tab.here))
    obtain ⟨s, hs⟩ : ∃ s, s = (pr l).1 := ⟨_, rfl⟩
    obtain ⟨pe, hpe⟩ : ∃ s, s = (pr l).2 := ⟨_, rfl⟩
    rw [← hs, ← hpe] at HPR
    have HS := Lib.hid (And.intro hs hpe)
    clear hs hpe hll HRD HFIT
    go_wp2_with fail
    refine HPR.out.mono ?_
    rintro e w20 ⟨rfl, hb20⟩
    have HO20 := Lib.hid (HO16.out.below hb20)
    clear hb20 HPR
    obtain ⟨E, hE⟩ : ∃ E, E = errT ⟨2, fam, acc⟩ 0 := ⟨_, rfl⟩
    have HE := Lib.hid hE
    rw [← hE] at HO20
    clear hE
    have d0 := HO20.out.d.cell 0 rfl
    have y0 := HO20.out.r.cell 0 rfl
    have f0 := HO20.out.r.frozen 0
    have y1 := HO20.out.r.cell 1 rfl
    have f1 := HO20.out.r.frozen 1
    by_cases hz : pe = 0
    case neg =>
      have z1 : (pe == 0) = false := by rw [beq_eq_false_iff_ne]; exact hz
      go_wp2_with fail
      try simp only [Exit.inBlock, Exit.then]
      exact ret_rct rfl rfl rfl (rc_set HO20.out.r rfl 0 []) ⟨.inl rfl, below_rc HO20.out.b (by omega) _ _⟩
    case pos =>
    subst hz
    by_cases hz : E = 0
    case neg =>
      have z1 : (E == 0) = false := by rw [beq_eq_false_iff_ne]; exact hz
      go_wp2_with fail
      try simp only [Exit.inBlock, Exit.then]
      exact ret_rct rfl rfl rfl (rc_set HO20.out.r rfl 0 []) ⟨.inl rfl, below_rc HO20.out.b (by omega) _ _⟩
    case pos =>
    subst hz
    go_wp2_with fail
    try simp only [Exit.inBlock, Exit.then]
    refine ret_rct rfl rfl rfl (rc_set HO20.out.r rfl 200 s) ⟨.inr (.inr ⟨rfl, ?_, s, ?_, rfl⟩), below_rc HO20.out.b (by omega) _ _⟩
    · have hE := HE.out
      exact ⟨fun h => absurd h (by decide), fun _ => ⟨(errT_zero hE.symm).1, fun h => absurd rfl h⟩⟩
    · have h1 := HTO.out
      refine (congrArg pr h1).trans ?_
      rw [HS.out.1, show (0 : Int) = (pr l).2 from HS.out.2]
  case neg =>
    have er : (ref == 0) = false := by rw [beq_eq_false_iff_ne]; exact hr
    have HREF := Lib.hid hr
    clear hr
    go_wp2_with fail
    refine (tok_any 3 ref (.slice sa sn sc) sec fam w.heap.size (w.heap.size + 1) w1.heap.size _ (errT ⟨2, fam, acc⟩ 0) _ HO9.out.s HO9.out.c rfl HO9.out.d (by rw [← HSN.out]; exact HSV.out.below HO9.out.b) HLEN.out.1 HC.out.fam (Lib.hid ((hL.out.on HO9.out.b).mono HO9.out.b.size))).mono ?_
    rintro e w11 ⟨rfl, hq11, hd11⟩
    have HO11 := Lib.hid (HO9.out.qs hq11 hd11)
    have HOW11 := Lib.hid (hq11.own HOW.out HLT.out.2)
    have HS11 : Hid (w8.heap.size ≤ w11.heap.size) := Lib.hid (Nat.le_trans (by simp) hq11.size)
    clear hq11 hd11 a2 er
    go_wp2_with fail
    refine (HTR.out _).mono ?_
    rintro e w12 ⟨rfl, hb12⟩
    have HO12 := Lib.hid (HO11.out.below hb12)
    have HOW12 := Lib.hid (own_below HOW11.out hb12)
    have HS12 : Hid (w8.heap.size ≤ w12.heap.size) := Lib.hid (Nat.le_trans HS11.out hb12.size)
    clear hb12
    have HO13 : Hid (OD w (w12.alloc (.cells #[.string ⟨#[114, 101, 102, 114, 101, 115, 104, 95, 116, 111, 107, 101, 110]⟩, .int .i64 0, .string ⟨(tok sec 3 fam ref).toArray⟩, .int .i64 0, .bool false] 50)) (.slice sa sn sc) [.int .i64 kd, .string ⟨fam.toArray⟩, .int .i64 ser, .int .i64 tk, .string ⟨cli.toArray⟩, .string ⟨usr.toArray⟩, .slice ca cn cc, .string ⟨red.toArray⟩, .string ⟨cha.toArray⟩, .string ⟨met.toArray⟩, .string ⟨ver.toArray⟩, .bool rf, .int .i64 edg] [.int .i64 0, .int .i64 acc, .int .i64 ref, .slice aa an ac, .string ⟨acli.toArray⟩, .string ⟨ause.toArray⟩, .bool act, .bool wait] w1.heap.size (errT ⟨3, fam, ref⟩ (errT ⟨2, fam, acc⟩ 0)) w4.heap.size asco) := Lib.hid (HO12.out.alloc _)
    have HOW13 : Hid ((w12.alloc (.cells #[.string ⟨#[114, 101, 102, 114, 101, 115, 104, 95, 116, 111, 107, 101, 110]⟩, .int .i64 0, .string ⟨(tok sec 3 fam ref).toArray⟩, .int .i64 0, .bool false] 50)).ownsRow w8.heap.size 50 5 (.slice (some ⟨w8.heap.size, 0, none⟩) 2 2) 2 (mCells [tm nAcc (tok sec 2 fam acc), tm nTyp nBea])) := Lib.hid (own_below HOW12.out ((Below.refl _ _).alloc (Nat.le_refl _) _))
    have HRX : Hid (Rd (w12.alloc (.cells #[.string ⟨#[114, 101, 102, 114, 101, 115, 104, 95, 116, 111, 107, 101, 110]⟩, .int .i64 0, .string ⟨(tok sec 3 fam ref).toArray⟩, .int .i64 0, .bool false] 50)) 5 (.slice (some ⟨w12.heap.size, 0, none⟩) 1 1) 1 (mCells [tm nRef (tok sec 3 fam ref)])) := Lib.hid (rdm_new w12 [tm nRef (tok sec 3 fam ref)] 1 rfl)
    have HS13 : w8.heap.size ≤ (w12.alloc (.cells #[.string ⟨#[114, 101, 102, 114, 101, 115, 104, 95, 116, 111, 107, 101, 110]⟩, .int .i64 0, .string ⟨(tok sec 3 fam ref).toArray⟩, .int .i64 0, .bool false] 50)).heap.size := by have := HS12.out; simp; omega
    go_wp2_with (at_builtin; go_loud (refine wpList_app rfl (.tmp 52) (.tmp 58) 46 rfl 50 w8.heap.size i0 (.agg #[.string ⟨#[]⟩, .int .i64 0, .string ⟨#[]⟩, .int .i64 0, .bool false]) 5 56 Tryz.underlying46 hi hz0 hz1 hz2 rfl (by decide) _ 2 (mCells [tm nAcc (tok sec 2 fam acc), tm nTyp nBea]) rfl HOW13.out _ 1 (mCells [tm nRef (tok sec 3 fam ref)]) rfl HRX.out (mc_one _) (by unfold maxLen; omega) (by omega) HS13 ?_))
    intro v20 w14 ho14 hg14 _
    have HO14 := Lib.hid (HO13.out.grown hg14 (fun k hk => by cases hk; exact HLT.out.1))
    rw [← mc_app] at ho14
    obtain ⟨va, vc, hv⟩ := (Rd.of_own ho14).slice
    subst hv
    have HOW14 := Lib.hid ho14
    have HS14 : Hid (w8.heap.size ≤ w14.heap.size) := Lib.hid (Nat.le_trans HS13 hg14.size)
    clear ho14 hg14 HRX HS13
    have t0 : w14.cell? ⟨w4.heap.size, 0, none⟩ = some (.string ⟨#[115, 99, 111, 112, 101]⟩) := HO14.out.t.cell 0 rfl
    have t1 : w14.cell? ⟨w4.heap.size, 1, none⟩ = some (.int .i64 0) := HO14.out.t.cell 1 rfl
    have t2 : w14.cell? ⟨w4.heap.size, 2, none⟩ = some (.string ⟨asco.toArray⟩) := HO14.out.t.cell 2 rfl
    have t3 : w14.cell? ⟨w4.heap.size, 3, none⟩ = some (.int .i64 0) := HO14.out.t.cell 3 rfl
    have t4 : w14.cell? ⟨w4.heap.size, 4, none⟩ = some (.bool false) := HO14.out.t.cell 4 rfl
    have HO15 : Hid (OD w (w14.alloc (.cells #[.string ⟨#[115, 99, 111, 112, 101]⟩, .int .i64 0, .string ⟨asco.toArray⟩, .int .i64 0, .bool false] 50)) (.slice sa sn sc) [.int .i64 kd, .string ⟨fam.toArray⟩, .int .i64 ser, .int .i64 tk, .string ⟨cli.toArray⟩, .string ⟨usr.toArray⟩, .slice ca cn cc, .string ⟨red.toArray⟩, .string ⟨cha.toArray⟩, .string ⟨met.toArray⟩, .string ⟨ver.toArray⟩, .bool rf, .int .i64 edg] [.int .i64 0, .int .i64 acc, .int .i64 ref, .slice aa an ac, .string ⟨acli.toArray⟩, .string ⟨ause.toArray⟩, .bool act, .bool wait] w1.heap.size (errT ⟨3, fam, ref⟩ (errT ⟨2, fam, acc⟩ 0)) w4.heap.size asco) := Lib.hid (HO14.out.alloc _)
    have HOW15 : Hid ((w14.alloc (.cells #[.string ⟨#[115, 99, 111, 112, 101]⟩, .int .i64 0, .string ⟨asco.toArray⟩, .int .i64 0, .bool false] 50)).ownsRow w8.heap.size 50 5 (.slice va 3 vc) 3 (mCells ([tm nAcc (tok sec 2 fam acc), tm nTyp nBea] ++ [tm nRef (tok sec 3 fam ref)]))) := Lib.hid (own_below HOW14.out ((Below.refl _ _).alloc (Nat.le_refl _) _))
    have HRX : Hid (Rd (w14.alloc (.cells #[.string ⟨#[115, 99, 111, 112, 101]⟩, .int .i64 0, .string ⟨asco.toArray⟩, .int .i64 0, .bool false] 50)) 5 (.slice (some ⟨w14.heap.size, 0, none⟩) 1 1) 1 (mCells [tm nSco asco])) := Lib.hid (rdm_new w14 [tm nSco asco] 1 rfl)
    have HS15 : w8.heap.size ≤ (w14.alloc (.cells #[.string ⟨#[115, 99, 111, 112, 101]⟩, .int .i64 0, .string ⟨asco.toArray⟩, .int .i64 0, .bool false] 50)).heap.size := by have := HS14.out; simp; omega
    go_wp2_with (at_builtin; go_loud (refine wpList_app rfl (.tmp 60) (.tmp 62) 46 rfl 50 w8.heap.size i0 (.agg #[.string ⟨#[]⟩, .int .i64 0, .string ⟨#[]⟩, .int .i64 0, .bool false]) 5 56 Tryz.underlying46 hi hz0 hz1 hz2 rfl (by decide) _ 3 (mCells ([tm nAcc (tok sec 2 fam acc), tm nTyp nBea] ++ [tm nRef (tok sec 3 fam ref)])) rfl HOW15.out _ 1 (mCells [tm nSco asco]) rfl HRX.out (mc_one _) (by unfold maxLen; omega) (by omega) HS15 ?_))
    intro v20 w16 ho16 hg16 _
    have HO16 := Lib.hid (HO15.out.grown hg16 (fun k hk => by have h1 := (HOW15.out.lt k hk).1; have h2 := HLT.out.1; omega))
    have HRD : Hid (RdM w16 v20 (([tm nAcc (tok sec 2 fam acc), tm nTyp nBea] ++ [tm nRef (tok sec 3 fam ref)]) ++ [tm nSco asco])) := Lib.hid (by have h := Rd.of_own ho16; rw [← mc_app] at h; exact h)
    obtain ⟨vb, vd, hv⟩ := (Rd.of_own ho16).slice
    subst hv
    have HFIT : Hid (fitL (([tm nAcc (tok sec 2 fam acc), tm nTyp nBea] ++ [tm nRef (tok sec 3 fam ref)]) ++ [tm nSco asco])) := Lib.hid (fun m hm => by
      simp only [List.mem_cons, List.mem_append, List.cons_append, List.nil_append, List.not_mem_nil, or_false] at hm
      rcases hm with rfl | rfl | rfl | rfl
      · exact fit_tm (by decide) (by have := tok_len sec 2 fam acc; omega)
      · exact fit_tm (by decide) (by decide)
      · exact fit_tm (by decide) (by have := tok_len sec 3 fam ref; omega)
      · exact fit_tm (by decide) (by rw [HLEN.out.2.2.1]; exact sco_len asc HLEN.out.2.1))
    clear ho16 hg16 HS15 t0 t1 t2 t3 t4
    obtain ⟨l, hll⟩ : ∃ l, l = ([tm nAcc (tok sec 2 fam acc), tm nTyp nBea] ++ [tm nRef (tok sec 3 fam ref)]) ++ [tm nSco asco] := ⟨_, rfl⟩
    have HLL := Lib.hid hll
    have HTO : Hid (told pTok sec fam ⟨asco, acc, ref, act, acli, ause⟩ = l) := Lib.hid (by rw [hll]; unfold told; rw [if_neg (by decide), if_pos rfl, if_neg HREF.out]; rfl)
    have HPR := Lib.hid (print_any _ l _ (by rw [hll]; exact HRD.out) (Lib.hid (by rw [hll]; exact HFIT.out)) (by rw [hll]; simp) (Lib.hid (hL.out.on HO16.out.b).tab.here))
    obtain ⟨s, hs⟩ : ∃ s, s = (pr l).1 := ⟨_, rfl⟩
    obtain ⟨pe, hpe⟩ : ∃ s, s = (pr l).2 := ⟨_, rfl⟩
    rw [← hs, ← hpe] at HPR
    have HS := Lib.hid (And.intro hs hpe)
    clear hs hpe hll HRD HFIT
    go_wp2_with fail
    refine HPR.out.mono ?_
    rintro e w20 ⟨rfl, hb20⟩
    have HO20 := Lib.hid (HO16.out.below hb20)
    clear hb20 HPR
    obtain ⟨E, hE⟩ : ∃ E, E = errT ⟨3, fam, ref⟩ (errT ⟨2, fam, acc⟩ 0) := ⟨_, rfl⟩
    have HE := Lib.hid hE
    rw [← hE] at HO20
    clear hE
    have d0 := HO20.out.d.cell 0 rfl
    have y0 := HO20.out.r.cell 0 rfl
    have f0 := HO20.out.r.frozen 0
    have y1 := HO20.out.r.cell 1 rfl
    have f1 := HO20.out.r.frozen 1
    by_cases hz : pe = 0
    case neg =>
      have z1 : (pe == 0) = false := by rw [beq_eq_false_iff_ne]; exact hz
      go_wp2_with fail
      try simp only [Exit.inBlock, Exit.then]
      exact ret_rct rfl rfl rfl (rc_set HO20.out.r rfl 0 []) ⟨.inl rfl, below_rc HO20.out.b (by omega) _ _⟩
    case pos =>
    subst hz
    by_cases hz : E = 0
    case neg =>
      have z1 : (E == 0) = false := by rw [beq_eq_false_iff_ne]; exact hz
      go_wp2_with fail
      try simp only [Exit.inBlock, Exit.then]
      exact ret_rct rfl rfl rfl (rc_set HO20.out.r rfl 0 []) ⟨.inl rfl, below_rc HO20.out.b (by omega) _ _⟩
    case pos =>
    subst hz
    go_wp2_with fail
    try simp only [Exit.inBlock, Exit.then]
    refine ret_rct rfl rfl rfl (rc_set HO20.out.r rfl 200 s) ⟨.inr (.inr ⟨rfl, ?_, s, ?_, rfl⟩), below_rc HO20.out.b (by omega) _ _⟩
    · have hE := HE.out
      exact ⟨fun h => absurd h (by decide), fun _ => ⟨(errT_zero (errT_zero hE.symm).2).1, fun _ => (errT_zero hE.symm).1⟩⟩
    · have h1 := HTO.out
      refine (congrArg pr h1).trans ?_
      rw [HS.out.1, show (0 : Int) = (pr l).2 from HS.out.2]
set_option maxHeartbeats 8000000 in
theorem of_int (path sec : By) (sv : Value) (c : Gr.Cm) (cv : Value) (a : An) (why : Int) (asc : List By) (av : Value) (wait : Bool) (w : World) (hsv : Rd w 1 sv sec.length (Lib.byteCells sec)) (hl : sec.length ≤ 288230376151711744) (hcs : RdS w cv c.sco) (hc : Gr.CmOk c) (has : RdS w av asc) (hal : asc.length ≤ 1000) (hsco : a.sco = Sc.join (Sc.set asc)) (hcli : a.cli.length ≤ 140737488355000) (huse : a.use.length ≤ 140737488355000) (hL : Hid (LaidB w.heap.size w)) (hw : why = 0) (hp : path = pInt) :
    Calls Tryz.prog 14 #[.string ⟨path.toArray⟩, sv, Gr.cmV c cv, anV a why av wait] w fun e w' => OfR path sec c.fam a why e ∧ Below w.heap.size w w' := by
  obtain ⟨kd, fam, ser, tk, cli, usr, sco, red, cha, met, ver, rf, edg⟩ := c
  obtain ⟨asco, acc, ref, act, acli, ause⟩ := a
  have HF := Lib.hid (fun W hb => Gr.fits_any path ⟨kd, fam, ser, tk, cli, usr, sco, red, cha, met, ver, rf, edg⟩ cv W (hcs.below hb) hc)
  have HSV := Lib.hid hsv
  have HA := Lib.hid has
  have HC := Lib.hid hc
  have HLEN := Lib.hid (And.intro hl (And.intro hal (And.intro hsco (And.intro hcli huse))))
  simp only at HLEN
  obtain ⟨sa, sc, e1⟩ := hsv.slice
  subst e1
  obtain ⟨ca, cc, e2⟩ := hcs.1.slice
  obtain ⟨aa, ac, e3⟩ := has.1.slice
  simp only at e2
  obtain ⟨cn, hcn⟩ : ∃ n, n = sco.length := ⟨_, rfl⟩
  obtain ⟨an, han⟩ : ∃ n, n = asc.length := ⟨_, rfl⟩
  obtain ⟨sn, hsn⟩ : ∃ n, n = sec.length := ⟨_, rfl⟩
  rw [← hcn] at e2
  rw [← han] at e3
  subst e2
  subst e3
  have HSN := Lib.hid hsn
  clear hsv hcs has hc hl hal hsco hcli huse hcn han
  have HM0 := Lib.hid (OM.start w (.slice sa sn sc) [.int .i64 kd, .string ⟨fam.toArray⟩, .int .i64 ser, .int .i64 tk, .string ⟨cli.toArray⟩, .string ⟨usr.toArray⟩, .slice ca cn cc, .string ⟨red.toArray⟩, .string ⟨cha.toArray⟩, .string ⟨met.toArray⟩, .string ⟨ver.toArray⟩, .bool rf, .int .i64 edg] [.int .i64 why, .int .i64 acc, .int .i64 ref, .slice aa an ac, .string ⟨acli.toArray⟩, .string ⟨ause.toArray⟩, .bool act, .bool wait])
  rw [← hsn] at HSV ⊢
  clear hsn
  have hmf : ∀ (fn : Fn) (first cap : Array Value) (w : World), (Instr.makeFunc fn first cap).run Tryz.prog w = .ok (.func fn first cap) w := fun _ _ _ _ => rfl
  unfold Gr.cmV at HF ⊢
  unfold anV
  subst hw
  have HP := Lib.hid hp
  clear hp
  go_enter Tryz.func14, Tryz.ntmps14
  go_wp2_with fail
  refine (HF.out _ HM0.out.b).mono ?_
  rintro e w1 ⟨⟨b, rfl⟩, hb1⟩
  have HM1 := Lib.hid (HM0.out.below hb1)
  clear hb1 HF HM0
  cases b with
  | false =>
    have y0 := HM1.out.r.cell 0 rfl
    have y1 := HM1.out.r.cell 1 rfl
    have f0 := HM1.out.r.frozen 0
    have f1 := HM1.out.r.frozen 1
    go_wp2_with fail
    try simp only [Exit.inBlock, Exit.then]
    exact ret_rct rfl rfl rfl (rc_set HM1.out.r rfl 0 []) ⟨.inl rfl, below_rc HM1.out.b (by omega) _ _⟩
  | true =>
  have a0 := HM1.out.a.cell 0 rfl
  have HM2 := Lib.hid (HM1.out.alloc (.cells #[.int .i64 0] 43))
  have a3 := HM2.out.a.cell 3 rfl
  have HD2 := Lib.hid (Blk.new w1 43 [.int .i64 0])
  have HSP := Lib.hid (fun W hb => sprint_any _ asc W (HA.out.below hb) (by have := HLEN.out.2.1; omega))
  have HTX := Lib.hid (fun W => text_any nSco (Sc.join (Sc.set asc)) W)
  unfold nSco at HTX
  rw [← HLEN.out.2.2.1] at HSP HTX
  go_wp2_with fail
  refine (HSP.out _ HM2.out.b).mono ?_
  rintro e w3 ⟨rfl, hb3⟩
  have HM3 := Lib.hid (HM2.out.below hb3)
  have HD3 := Lib.hid (HD2.out.below hb3 HD2.out.lt)
  clear hb3 HM2 HD2 a0 a3 HSP
  go_wp2_with fail
  refine (HTX.out _).mono ?_
  rintro e w4 ⟨rfl, hb4⟩
  have HM4 := Lib.hid (HM3.out.below hb4)
  have HD4 := Lib.hid (HD3.out.below hb4 HD3.out.lt)
  clear hb4 HM3 HD3 HTX
  have HO : Hid (OD w (w4.alloc (.cells #[.string ⟨#[115, 99, 111, 112, 101]⟩, .int .i64 0, .string ⟨asco.toArray⟩, .int .i64 0, .bool false] 50)) (.slice sa sn sc) [.int .i64 kd, .string ⟨fam.toArray⟩, .int .i64 ser, .int .i64 tk, .string ⟨cli.toArray⟩, .string ⟨usr.toArray⟩, .slice ca cn cc, .string ⟨red.toArray⟩, .string ⟨cha.toArray⟩, .string ⟨met.toArray⟩, .string ⟨ver.toArray⟩, .bool rf, .int .i64 edg] [.int .i64 0, .int .i64 acc, .int .i64 ref, .slice aa an ac, .string ⟨acli.toArray⟩, .string ⟨ause.toArray⟩, .bool act, .bool wait] w1.heap.size 0 w4.heap.size asco) := Lib.hid (OD.mk (HM4.out.alloc (.cells (mc (tm nSco asco)).toArray 50)) (HD4.out.alloc _) (Blk.new w4 50 (mc (tm nSco asco))) (by have := HM1.out.r.lt; omega) HD4.out.lt)
  clear HM4 HD4
  obtain ⟨i0, hi, hz0, hz1, hz2⟩ := info_parts mb_row
  have HTC := Lib.hid (fun W => text_any nCli acli W)
  unfold nCli mv at HTC
  have HTU := Lib.hid (fun W => text_any nUse ause W)
  unfold nUse mv at HTU
  have HTB := Lib.hid (fun W => text_any nTyp nBea W)
  unfold nTyp nBea mv at HTB
  have HBL := Lib.hid (fun W => bool_any nAct act W)
  unfold nAct mv at HBL
  have hp := HP.out
  subst hp
  clear HP
  unfold pInt
  unfold mv
  have a6 := HO.out.a.cell 6 rfl
  go_wp2_with fail
  refine (HBL.out _).mono ?_
  rintro e w6 ⟨rfl, hb6⟩
  have HO6 := Lib.hid (HO.out.below hb6)
  clear hb6 a6
  have HO7 : Hid (OD w (w6.alloc (.cells #[.string ⟨#[97, 99, 116, 105, 118, 101]⟩, .int .i64 2, .string ⟨#[]⟩, .int .i64 0, .bool act] 50)) (.slice sa sn sc) [.int .i64 kd, .string ⟨fam.toArray⟩, .int .i64 ser, .int .i64 tk, .string ⟨cli.toArray⟩, .string ⟨usr.toArray⟩, .slice ca cn cc, .string ⟨red.toArray⟩, .string ⟨cha.toArray⟩, .string ⟨met.toArray⟩, .string ⟨ver.toArray⟩, .bool rf, .int .i64 edg] [.int .i64 0, .int .i64 acc, .int .i64 ref, .slice aa an ac, .string ⟨acli.toArray⟩, .string ⟨ause.toArray⟩, .bool act, .bool wait] w1.heap.size (0) w4.heap.size asco) := Lib.hid (HO6.out.alloc _)
  have HOW7 : Hid ((w6.alloc (.cells #[.string ⟨#[97, 99, 116, 105, 118, 101]⟩, .int .i64 2, .string ⟨#[]⟩, .int .i64 0, .bool act] 50)).ownsRow w6.heap.size 50 5 (.slice (some ⟨w6.heap.size, 0, none⟩) 1 1) 1 (mCells [bm nAct act])) := Lib.hid (own_mb w6 [bm nAct act] 1 rfl (by simp))
  have a6 : (w6.alloc (.cells #[.string ⟨#[97, 99, 116, 105, 118, 101]⟩, .int .i64 2, .string ⟨#[]⟩, .int .i64 0, .bool act] 50)).cell? ⟨w.heap.size + 2, 6, none⟩ = some (.bool act) := HO7.out.a.cell 6 rfl
  have HLT : Hid (w4.heap.size < w6.heap.size) := Lib.hid HO6.out.t.lt
  cases act with
  | false =>
    have HRD : Hid (RdM _ _ [bm nAct false]) := Lib.hid (rdm_new w6 [bm nAct false] 1 rfl)
    have HFIT : Hid (fitL ([bm nAct false])) := Lib.hid (fun m hm => by
      simp only [List.mem_cons, List.mem_append, List.cons_append, List.nil_append, List.not_mem_nil, or_false] at hm
      rcases hm with rfl
      · exact fit_bm (by decide))
    obtain ⟨l, hll⟩ : ∃ l, l = [bm nAct false] := ⟨_, rfl⟩
    have HLL := Lib.hid hll
    have HTO : Hid (told pInt sec fam ⟨asco, acc, ref, false, acli, ause⟩ = l) := Lib.hid (by rw [hll]; rfl)
    have HPR := Lib.hid (print_any _ l _ (by rw [hll]; exact HRD.out) (Lib.hid (by rw [hll]; exact HFIT.out)) (by rw [hll]; simp) (Lib.hid (hL.out.on HO7.out.b).tab.here))
    obtain ⟨s, hs⟩ : ∃ s, s = (pr l).1 := ⟨_, rfl⟩
    obtain ⟨pe, hpe⟩ : ∃ s, s = (pr l).2 := ⟨_, rfl⟩
    rw [← hs, ← hpe] at HPR
    have HS := Lib.hid (And.intro hs hpe)
    clear hs hpe hll HRD HFIT
    go_wp2_with fail
    refine HPR.out.mono ?_
    rintro e w20 ⟨rfl, hb20⟩
    have HO20 := Lib.hid (HO7.out.below hb20)
    clear hb20 HPR
    obtain ⟨E, hE⟩ : ∃ E, E = (0 : Int) := ⟨_, rfl⟩
    have HE := Lib.hid hE
    clear hE
    have d0 := HO20.out.d.cell 0 rfl
    have y0 := HO20.out.r.cell 0 rfl
    have f0 := HO20.out.r.frozen 0
    have y1 := HO20.out.r.cell 1 rfl
    have f1 := HO20.out.r.frozen 1
    by_cases hz : pe = 0
    case neg =>
      have z1 : (pe == 0) = false := by rw [beq_eq_false_iff_ne]; exact hz
      go_wp2_with fail
      try simp only [Exit.inBlock, Exit.then]
      exact ret_rct rfl rfl rfl (rc_set HO20.out.r rfl 0 []) ⟨.inl rfl, below_rc HO20.out.b (by omega) _ _⟩
    case pos =>
    subst hz
    go_wp2_with fail
    try simp only [Exit.inBlock, Exit.then]
    refine ret_rct rfl rfl rfl (rc_set HO20.out.r rfl 200 s) ⟨.inr (.inr ⟨rfl, ?_, s, ?_, rfl⟩), below_rc HO20.out.b (by omega) _ _⟩
    · have hE := HE.out
      exact ⟨fun h => absurd h (by decide), fun h => absurd h (by decide)⟩
    · have h1 := HTO.out
      refine (congrArg pr h1).trans ?_
      rw [HS.out.1, show (0 : Int) = (pr l).2 from HS.out.2]
  | true =>
  go_wp2_with fail
  refine wp_region_held_drew (S := (fun W => W.cell? ⟨w4.heap.size, 0, none⟩ = some (.string ⟨nSco.toArray⟩) ∧ W.cell? ⟨w4.heap.size, 1, none⟩ = some (.int .i64 0) ∧ W.cell? ⟨w4.heap.size, 2, none⟩ = some (.string ⟨asco.toArray⟩) ∧ W.cell? ⟨w4.heap.size, 3, none⟩ = some (.int .i64 0) ∧ W.cell? ⟨w4.heap.size, 4, none⟩ = some (.bool false) ∧ W.cell? ⟨w.heap.size + 2, 4, none⟩ = some (.string ⟨acli.toArray⟩) ∧ W.cell? ⟨w.heap.size + 2, 5, none⟩ = some (.string ⟨ause.toArray⟩))) (by kernel_rfl) ?_ (fun hHeld1 => ?_)
  · exact ⟨HO7.out.t.cell 0 rfl, HO7.out.t.cell 1 rfl, HO7.out.t.cell 2 rfl, HO7.out.t.cell 3 rfl, HO7.out.t.cell 4 rfl, HO7.out.a.cell 4 rfl, HO7.out.a.cell 5 rfl⟩
  refine wpAnyH_take (i := 0) (oi := ?oi7) (v := ?v7) ?hi7 (by kernel_rfl) (by kernel_rfl) (by kernel_rfl) ?hq7 ?hy7 (by assumption) ?rest7
  case hi7 => (simp only [List.getElem?_toArray, List.getElem?_cons_succ, List.getElem?_cons_zero]; rfl)
  case hq7 => exact fun _ _ _ h => h
  case hy7 => (refine Or.inl ⟨by rfl, ?_⟩; intro W hSw; (try dsimp only at hSw); go_simp; (try with_reducible rfl))
  try simp only [Act.put, List.setIfInBounds_toArray, List.set_cons_zero, List.set_cons_succ]
  refine wpAnyH_take (i := 1) (oi := ?oi8) (v := ?v8) ?hi8 (by kernel_rfl) (by kernel_rfl) (by kernel_rfl) ?hq8 ?hy8 (by assumption) ?rest8
  case hi8 => (simp only [List.getElem?_toArray, List.getElem?_cons_succ, List.getElem?_cons_zero]; rfl)
  case hq8 => exact fun _ _ _ h => h
  case hy8 => (refine Or.inl ⟨by rfl, ?_⟩; intro W hSw; (try dsimp only at hSw); go_simp; (try with_reducible rfl))
  try simp only [Act.put, List.setIfInBounds_toArray, List.set_cons_zero, List.set_cons_succ]
  refine wpAnyH_take (i := 2) (oi := ?oi9) (v := ?v9) ?hi9 (by kernel_rfl) (by kernel_rfl) (by kernel_rfl) ?hq9 ?hy9 (by assumption) ?rest9
  case hi9 => (simp only [List.getElem?_toArray, List.getElem?_cons_succ, List.getElem?_cons_zero]; rfl)
  case hq9 => exact fun _ _ _ h => h
  case hy9 => (refine Or.inl ⟨by rfl, ?_⟩; intro W hSw; (try dsimp only at hSw); go_simp; (try with_reducible rfl))
  try simp only [Act.put, List.setIfInBounds_toArray, List.set_cons_zero, List.set_cons_succ]
  refine wpAnyH_take (i := 3) (oi := ?oi10) (v := ?v10) ?hi10 (by kernel_rfl) (by kernel_rfl) (by kernel_rfl) ?hq10 ?hy10 (by assumption) ?rest10
  case hi10 => (simp only [List.getElem?_toArray, List.getElem?_cons_succ, List.getElem?_cons_zero]; rfl)
  case hq10 => exact fun _ _ _ h => h
  case hy10 => (refine Or.inl ⟨by rfl, ?_⟩; intro W hSw; (try dsimp only at hSw); go_simp; (try with_reducible rfl))
  try simp only [Act.put, List.setIfInBounds_toArray, List.set_cons_zero, List.set_cons_succ]
  refine wpAnyH_take (i := 5) (oi := ?oi11) (v := ?v11) ?hi11 (by kernel_rfl) (by kernel_rfl) (by kernel_rfl) ?hq11 ?hy11 (by assumption) ?rest11
  case hi11 => (simp only [List.getElem?_toArray, List.getElem?_cons_succ, List.getElem?_cons_zero]; rfl)
  case hq11 => exact fun _ _ _ h => h
  case hy11 => (refine Or.inl ⟨by rfl, ?_⟩; intro W hSw; (try dsimp only at hSw); go_simp; (try with_reducible rfl))
  try simp only [Act.put, List.setIfInBounds_toArray, List.set_cons_zero, List.set_cons_succ]
  refine wpAnyH_take (i := 6) (oi := ?oi12) (v := ?v12) ?hi12 (by kernel_rfl) (by kernel_rfl) (by kernel_rfl) ?hq12 ?hy12 (by assumption) ?rest12
  case hi12 => (simp only [List.getElem?_toArray, List.getElem?_cons_succ, List.getElem?_cons_zero]; rfl)
  case hq12 => exact fun _ _ _ h => h
  case hy12 => (refine Or.inl ⟨by rfl, ?_⟩; intro W hSw; (try dsimp only at hSw); go_simp; (try with_reducible rfl))
  try simp only [Act.put, List.setIfInBounds_toArray, List.set_cons_zero, List.set_cons_succ]
  refine wpAnyH_ready (rs := [4]) (by kernel_rfl) (by simp) ?_
  refine AllReadyH.cons (o := ?oi13) ?hi13 (fun K hK => ?hs13) AllReadyH.nil
  case hi13 => (simp only [List.getElem?_toArray, List.getElem?_cons_succ, List.getElem?_cons_zero]; rfl)
  go_simp
  refine (HTC.out _).mono ?_
  rintro e w8 ⟨rfl, hb8⟩
  have HO8 := Lib.hid (HO7.out.drew.below hb8)
  have HOW8 : Hid (w8.ownsRow w6.heap.size 50 5 (.slice (some ⟨w6.heap.size, 0, none⟩) 1 1) 1 (mCells [bm nAct true])) := Lib.hid (own_below (w := (w6.alloc (.cells #[.string ⟨#[97, 99, 116, 105, 118, 101]⟩, .int .i64 2, .string ⟨#[]⟩, .int .i64 0, .bool true] 50)).drew) HOW7.out hb8)
  have HS8 : Hid (w6.heap.size ≤ w8.heap.size) := Lib.hid (Nat.le_trans (by simp [World.drew]) hb8.size)
  go_wp2_with fail
  refine hK.out _ _ ?_ (fun hHeld2 => ?_)
  · exact ⟨HO8.out.t.cell 0 rfl, HO8.out.t.cell 1 rfl, HO8.out.t.cell 2 rfl, HO8.out.t.cell 3 rfl, HO8.out.t.cell 4 rfl, HO8.out.a.cell 4 rfl, HO8.out.a.cell 5 rfl⟩
  clear hK
  try simp only [Act.put, List.setIfInBounds_toArray, List.set_cons_zero, List.set_cons_succ]
  refine wpAnyH_ready (rs := [7]) (by kernel_rfl) (by simp) ?_
  refine AllReadyH.cons (o := ?oi14) ?hi14 (fun K hK => ?hs14) AllReadyH.nil
  case hi14 => (simp only [List.getElem?_toArray, List.getElem?_cons_succ, List.getElem?_cons_zero]; rfl)
  go_simp
  refine (HTU.out _).mono ?_
  rintro e w9 ⟨rfl, hb9⟩
  have HO9 := Lib.hid (HO8.out.below hb9)
  have HOW9 := Lib.hid (own_below HOW8.out hb9)
  have HS9 : Hid (w6.heap.size ≤ w9.heap.size) := Lib.hid (Nat.le_trans HS8.out hb9.size)
  go_wp2_with fail
  refine hK.out _ _ ?_ (fun hHeld2 => ?_)
  · exact ⟨HO9.out.t.cell 0 rfl, HO9.out.t.cell 1 rfl, HO9.out.t.cell 2 rfl, HO9.out.t.cell 3 rfl, HO9.out.t.cell 4 rfl, HO9.out.a.cell 4 rfl, HO9.out.a.cell 5 rfl⟩
  clear hK
  try simp only [Act.put, List.setIfInBounds_toArray, List.set_cons_zero, List.set_cons_succ]
  refine wpAnyH_ready (rs := [8]) (by kernel_rfl) (by simp) ?_
  refine AllReadyH.cons (o := ?oi15) ?hi15 (fun K hK => ?hs15) AllReadyH.nil
  case hi15 => (simp only [List.getElem?_toArray, List.getElem?_cons_succ, List.getElem?_cons_zero]; rfl)
  go_simp
  refine (HTB.out _).mono ?_
  rintro e w10 ⟨rfl, hb10⟩
  have HO10 := Lib.hid (HO9.out.below hb10)
  have HOW10 := Lib.hid (own_below HOW9.out hb10)
  have HS10 : Hid (w6.heap.size ≤ w10.heap.size) := Lib.hid (Nat.le_trans HS9.out hb10.size)
  go_wp2_with fail
  refine hK.out _ _ ?_ (fun hHeld2 => ?_)
  · exact ⟨HO10.out.t.cell 0 rfl, HO10.out.t.cell 1 rfl, HO10.out.t.cell 2 rfl, HO10.out.t.cell 3 rfl, HO10.out.t.cell 4 rfl, HO10.out.a.cell 4 rfl, HO10.out.a.cell 5 rfl⟩
  clear hK
  try simp only [Act.put, List.setIfInBounds_toArray, List.set_cons_zero, List.set_cons_succ]
  refine wpAnyH_ready (rs := [9]) (by kernel_rfl) (by simp) ?_
  refine AllReadyH.cons (o := ?oi16) ?hi16 (fun K hK => ?hs16) AllReadyH.nil
  case hi16 => (simp only [List.getElem?_toArray, List.getElem?_cons_succ, List.getElem?_cons_zero]; rfl)
  go_simp
  have HO11 : Hid (OD w (w10.alloc (.cells #[.string ⟨#[115, 99, 111, 112, 101]⟩, .int .i64 0, .string ⟨asco.toArray⟩, .int .i64 0, .bool false, .string ⟨#[99, 108, 105, 101, 110, 116, 95, 105, 100]⟩, .int .i64 0, .string ⟨acli.toArray⟩, .int .i64 0, .bool false, .string ⟨#[117, 115, 101, 114, 110, 97, 109, 101]⟩, .int .i64 0, .string ⟨ause.toArray⟩, .int .i64 0, .bool false, .string ⟨#[116, 111, 107, 101, 110, 95, 116, 121, 112, 101]⟩, .int .i64 0, .string ⟨#[66, 101, 97, 114, 101, 114]⟩, .int .i64 0, .bool false] 50)) (.slice sa sn sc) [.int .i64 kd, .string ⟨fam.toArray⟩, .int .i64 ser, .int .i64 tk, .string ⟨cli.toArray⟩, .string ⟨usr.toArray⟩, .slice ca cn cc, .string ⟨red.toArray⟩, .string ⟨cha.toArray⟩, .string ⟨met.toArray⟩, .string ⟨ver.toArray⟩, .bool rf, .int .i64 edg] [.int .i64 0, .int .i64 acc, .int .i64 ref, .slice aa an ac, .string ⟨acli.toArray⟩, .string ⟨ause.toArray⟩, .bool true, .bool wait] w1.heap.size (0) w4.heap.size asco) := Lib.hid (HO10.out.alloc _)
  have HOW11 : Hid ((w10.alloc (.cells #[.string ⟨#[115, 99, 111, 112, 101]⟩, .int .i64 0, .string ⟨asco.toArray⟩, .int .i64 0, .bool false, .string ⟨#[99, 108, 105, 101, 110, 116, 95, 105, 100]⟩, .int .i64 0, .string ⟨acli.toArray⟩, .int .i64 0, .bool false, .string ⟨#[117, 115, 101, 114, 110, 97, 109, 101]⟩, .int .i64 0, .string ⟨ause.toArray⟩, .int .i64 0, .bool false, .string ⟨#[116, 111, 107, 101, 110, 95, 116, 121, 112, 101]⟩, .int .i64 0, .string ⟨#[66, 101, 97, 114, 101, 114]⟩, .int .i64 0, .bool false] 50)).ownsRow w6.heap.size 50 5 (.slice (some ⟨w6.heap.size, 0, none⟩) 1 1) 1 (mCells [bm nAct true])) := Lib.hid (own_below HOW10.out ((Below.refl _ _).alloc (Nat.le_refl _) _))
  have HRX : Hid (Rd (w10.alloc (.cells #[.string ⟨#[115, 99, 111, 112, 101]⟩, .int .i64 0, .string ⟨asco.toArray⟩, .int .i64 0, .bool false, .string ⟨#[99, 108, 105, 101, 110, 116, 95, 105, 100]⟩, .int .i64 0, .string ⟨acli.toArray⟩, .int .i64 0, .bool false, .string ⟨#[117, 115, 101, 114, 110, 97, 109, 101]⟩, .int .i64 0, .string ⟨ause.toArray⟩, .int .i64 0, .bool false, .string ⟨#[116, 111, 107, 101, 110, 95, 116, 121, 112, 101]⟩, .int .i64 0, .string ⟨#[66, 101, 97, 114, 101, 114]⟩, .int .i64 0, .bool false] 50)) 5 (.slice (some ⟨w10.heap.size, 0, none⟩) 4 4) 4 (mCells [tm nSco asco, tm nCli acli, tm nUse ause, tm nTyp nBea])) := Lib.hid (rdm_new w10 [tm nSco asco, tm nCli acli, tm nUse ause, tm nTyp nBea] 4 rfl)
  refine hK.out _ _ ?_ (fun hHeld3 => ?_)
  · exact ⟨HO11.out.t.cell 0 rfl, HO11.out.t.cell 1 rfl, HO11.out.t.cell 2 rfl, HO11.out.t.cell 3 rfl, HO11.out.t.cell 4 rfl, HO11.out.a.cell 4 rfl, HO11.out.a.cell 5 rfl⟩
  clear hK
  try simp only [Act.put, List.setIfInBounds_toArray, List.set_cons_zero, List.set_cons_succ]
  obtain ⟨v20, w16, hrun, ho16, hg16, _⟩ := app_run (P := Tryz.prog) (w10.alloc (.cells #[.string ⟨#[115, 99, 111, 112, 101]⟩, .int .i64 0, .string ⟨asco.toArray⟩, .int .i64 0, .bool false, .string ⟨#[99, 108, 105, 101, 110, 116, 95, 105, 100]⟩, .int .i64 0, .string ⟨acli.toArray⟩, .int .i64 0, .bool false, .string ⟨#[117, 115, 101, 114, 110, 97, 109, 101]⟩, .int .i64 0, .string ⟨ause.toArray⟩, .int .i64 0, .bool false, .string ⟨#[116, 111, 107, 101, 110, 95, 116, 121, 112, 101]⟩, .int .i64 0, .string ⟨#[66, 101, 97, 114, 101, 114]⟩, .int .i64 0, .bool false] 50)) 46 46 50 w6.heap.size i0 (.agg #[.string ⟨#[]⟩, .int .i64 0, .string ⟨#[]⟩, .int .i64 0, .bool false]) 5 56 Tryz.underlying46 hi hz0 hz1 hz2 rfl (by decide) _ 1 _ HOW11.out _ 4 _ HRX.out (mc_one _) (by unfold maxLen; omega) (by omega) (by have := HS10.out; simp; omega)
  obtain ⟨va, vc, hv⟩ := (Rd.of_own ho16).slice
  subst hv
  refine wpAnyH_ready (rs := [10]) (by kernel_rfl) (by simp) ?_
  refine AllReadyH.cons (o := ?oi17) ?hi17 (fun K hK => ?hs17) AllReadyH.nil
  case hi17 => (simp only [List.getElem?_toArray, List.getElem?_cons_succ, List.getElem?_cons_zero]; rfl)
  refine hs_exec (by rfl) (exec_app (.tmp 72) (.tmp 81) 46 rfl rfl rfl hrun) ?_
  have HO16 := Lib.hid (HO11.out.grown hg16 (fun k hk => by cases hk; exact HLT.out))
  refine hK.out _ _ ?_ (fun hHeld4 => ?_)
  · exact ⟨HO16.out.t.cell 0 rfl, HO16.out.t.cell 1 rfl, HO16.out.t.cell 2 rfl, HO16.out.t.cell 3 rfl, HO16.out.t.cell 4 rfl, HO16.out.a.cell 4 rfl, HO16.out.a.cell 5 rfl⟩
  clear hK hrun
  try simp only [Act.put, List.setIfInBounds_toArray, List.set_cons_zero, List.set_cons_succ]
  refine wpAnyH_take (i := 11) (oi := ?oi18) (v := ?v18) ?hi18 (by kernel_rfl) (by kernel_rfl) (by kernel_rfl) ?hq18 ?hy18 (by assumption) ?rest18
  case hi18 => (simp only [List.getElem?_toArray, List.getElem?_cons_succ, List.getElem?_cons_zero]; rfl)
  case hq18 => exact fun _ _ _ h => h
  case hy18 => (refine Or.inl ⟨by rfl, ?_⟩; intro W hSw; (try dsimp only at hSw); go_simp; (try with_reducible rfl))
  try simp only [Act.put, List.setIfInBounds_toArray, List.set_cons_zero, List.set_cons_succ]
  refine wpAnyH_done (by kernel_rfl) ?_ _

  have HRD : Hid (RdM w16 (.slice va 5 vc) ([bm nAct true] ++ [tm nSco asco, tm nCli acli, tm nUse ause, tm nTyp nBea])) := Lib.hid (by have h := Rd.of_own ho16; rw [← mc_app] at h; exact h)
  have HFIT : Hid (fitL ([bm nAct true] ++ [tm nSco asco, tm nCli acli, tm nUse ause, tm nTyp nBea])) := Lib.hid (fun m hm => by
    simp only [List.mem_cons, List.mem_append, List.cons_append, List.nil_append, List.not_mem_nil, or_false] at hm
    rcases hm with rfl | rfl | rfl | rfl | rfl
    · exact fit_bm (by decide)
    · exact fit_tm (by decide) (by rw [HLEN.out.2.2.1]; exact sco_len asc HLEN.out.2.1)
    · exact fit_tm (by decide) (by have := HLEN.out.2.2.2.1; omega)
    · exact fit_tm (by decide) (by have := HLEN.out.2.2.2.2; omega)
    · exact fit_tm (by decide) (by decide))
  clear ho16 hg16 a6 hHeld1 hHeld2 hHeld3 hHeld4 hb8 hb9 hb10
  obtain ⟨l, hll⟩ : ∃ l, l = [bm nAct true] ++ [tm nSco asco, tm nCli acli, tm nUse ause, tm nTyp nBea] := ⟨_, rfl⟩
  have HLL := Lib.hid hll
  have HTO : Hid (told pInt sec fam ⟨asco, acc, ref, true, acli, ause⟩ = l) := Lib.hid (by rw [hll]; rfl)
  have HPR := Lib.hid (print_any _ l _ (by rw [hll]; exact HRD.out) (Lib.hid (by rw [hll]; exact HFIT.out)) (by rw [hll]; simp) (Lib.hid (hL.out.on HO16.out.b).tab.here))
  obtain ⟨s, hs⟩ : ∃ s, s = (pr l).1 := ⟨_, rfl⟩
  obtain ⟨pe, hpe⟩ : ∃ s, s = (pr l).2 := ⟨_, rfl⟩
  rw [← hs, ← hpe] at HPR
  have HS := Lib.hid (And.intro hs hpe)
  clear hs hpe hll HRD HFIT
  go_wp2_with fail
  refine HPR.out.mono ?_
  rintro e w20 ⟨rfl, hb20⟩
  have HO20 := Lib.hid (HO16.out.below hb20)
  clear hb20 HPR
  obtain ⟨E, hE⟩ : ∃ E, E = (0 : Int) := ⟨_, rfl⟩
  have HE := Lib.hid hE
  clear hE
  have d0 := HO20.out.d.cell 0 rfl
  have y0 := HO20.out.r.cell 0 rfl
  have f0 := HO20.out.r.frozen 0
  have y1 := HO20.out.r.cell 1 rfl
  have f1 := HO20.out.r.frozen 1
  by_cases hz : pe = 0
  case neg =>
    have z1 : (pe == 0) = false := by rw [beq_eq_false_iff_ne]; exact hz
    go_wp2_with fail
    try simp only [Exit.inBlock, Exit.then]
    exact ret_rct rfl rfl rfl (rc_set HO20.out.r rfl 0 []) ⟨.inl rfl, below_rc HO20.out.b (by omega) _ _⟩
  case pos =>
  subst hz
  go_wp2_with fail
  try simp only [Exit.inBlock, Exit.then]
  refine ret_rct rfl rfl rfl (rc_set HO20.out.r rfl 200 s) ⟨.inr (.inr ⟨rfl, ?_, s, ?_, rfl⟩), below_rc HO20.out.b (by omega) _ _⟩
  · have hE := HE.out
    exact ⟨fun h => absurd h (by decide), fun h => absurd h (by decide)⟩
  · have h1 := HTO.out
    refine (congrArg pr h1).trans ?_
    rw [HS.out.1, show (0 : Int) = (pr l).2 from HS.out.2]
set_option maxHeartbeats 8000000 in
theorem of_rest (path sec : By) (sv : Value) (c : Gr.Cm) (cv : Value) (a : An) (why : Int) (asc : List By) (av : Value) (wait : Bool) (w : World) (hsv : Rd w 1 sv sec.length (Lib.byteCells sec)) (hl : sec.length ≤ 288230376151711744) (hcs : RdS w cv c.sco) (hc : Gr.CmOk c) (has : RdS w av asc) (hal : asc.length ≤ 1000) (hsco : a.sco = Sc.join (Sc.set asc)) (hcli : a.cli.length ≤ 140737488355000) (huse : a.use.length ≤ 140737488355000) (hL : Hid (LaidB w.heap.size w)) (hw : why = 0) (hp : path ≠ pAuth ∧ path ≠ pTok ∧ path ≠ pInt) :
    Calls Tryz.prog 14 #[.string ⟨path.toArray⟩, sv, Gr.cmV c cv, anV a why av wait] w fun e w' => OfR path sec c.fam a why e ∧ Below w.heap.size w w' := by
  obtain ⟨kd, fam, ser, tk, cli, usr, sco, red, cha, met, ver, rf, edg⟩ := c
  obtain ⟨asco, acc, ref, act, acli, ause⟩ := a
  have HF := Lib.hid (fun W hb => Gr.fits_any path ⟨kd, fam, ser, tk, cli, usr, sco, red, cha, met, ver, rf, edg⟩ cv W (hcs.below hb) hc)
  have HSV := Lib.hid hsv
  have HA := Lib.hid has
  have HC := Lib.hid hc
  have HLEN := Lib.hid (And.intro hl (And.intro hal (And.intro hsco (And.intro hcli huse))))
  simp only at HLEN
  obtain ⟨sa, sc, e1⟩ := hsv.slice
  subst e1
  obtain ⟨ca, cc, e2⟩ := hcs.1.slice
  obtain ⟨aa, ac, e3⟩ := has.1.slice
  simp only at e2
  obtain ⟨cn, hcn⟩ : ∃ n, n = sco.length := ⟨_, rfl⟩
  obtain ⟨an, han⟩ : ∃ n, n = asc.length := ⟨_, rfl⟩
  obtain ⟨sn, hsn⟩ : ∃ n, n = sec.length := ⟨_, rfl⟩
  rw [← hcn] at e2
  rw [← han] at e3
  subst e2
  subst e3
  have HSN := Lib.hid hsn
  clear hsv hcs has hc hl hal hsco hcli huse hcn han
  have HM0 := Lib.hid (OM.start w (.slice sa sn sc) [.int .i64 kd, .string ⟨fam.toArray⟩, .int .i64 ser, .int .i64 tk, .string ⟨cli.toArray⟩, .string ⟨usr.toArray⟩, .slice ca cn cc, .string ⟨red.toArray⟩, .string ⟨cha.toArray⟩, .string ⟨met.toArray⟩, .string ⟨ver.toArray⟩, .bool rf, .int .i64 edg] [.int .i64 why, .int .i64 acc, .int .i64 ref, .slice aa an ac, .string ⟨acli.toArray⟩, .string ⟨ause.toArray⟩, .bool act, .bool wait])
  rw [← hsn] at HSV ⊢
  clear hsn
  have hmf : ∀ (fn : Fn) (first cap : Array Value) (w : World), (Instr.makeFunc fn first cap).run Tryz.prog w = .ok (.func fn first cap) w := fun _ _ _ _ => rfl
  unfold Gr.cmV at HF ⊢
  unfold anV
  subst hw
  have HP := Lib.hid hp
  clear hp
  go_enter Tryz.func14, Tryz.ntmps14
  go_wp2_with fail
  refine (HF.out _ HM0.out.b).mono ?_
  rintro e w1 ⟨⟨b, rfl⟩, hb1⟩
  have HM1 := Lib.hid (HM0.out.below hb1)
  clear hb1 HF HM0
  cases b with
  | false =>
    have y0 := HM1.out.r.cell 0 rfl
    have y1 := HM1.out.r.cell 1 rfl
    have f0 := HM1.out.r.frozen 0
    have f1 := HM1.out.r.frozen 1
    go_wp2_with fail
    try simp only [Exit.inBlock, Exit.then]
    exact ret_rct rfl rfl rfl (rc_set HM1.out.r rfl 0 []) ⟨.inl rfl, below_rc HM1.out.b (by omega) _ _⟩
  | true =>
  have a0 := HM1.out.a.cell 0 rfl
  have HM2 := Lib.hid (HM1.out.alloc (.cells #[.int .i64 0] 43))
  have a3 := HM2.out.a.cell 3 rfl
  have HD2 := Lib.hid (Blk.new w1 43 [.int .i64 0])
  have HSP := Lib.hid (fun W hb => sprint_any _ asc W (HA.out.below hb) (by have := HLEN.out.2.1; omega))
  have HTX := Lib.hid (fun W => text_any nSco (Sc.join (Sc.set asc)) W)
  unfold nSco at HTX
  rw [← HLEN.out.2.2.1] at HSP HTX
  go_wp2_with fail
  refine (HSP.out _ HM2.out.b).mono ?_
  rintro e w3 ⟨rfl, hb3⟩
  have HM3 := Lib.hid (HM2.out.below hb3)
  have HD3 := Lib.hid (HD2.out.below hb3 HD2.out.lt)
  clear hb3 HM2 HD2 a0 a3 HSP
  go_wp2_with fail
  refine (HTX.out _).mono ?_
  rintro e w4 ⟨rfl, hb4⟩
  have HM4 := Lib.hid (HM3.out.below hb4)
  have HD4 := Lib.hid (HD3.out.below hb4 HD3.out.lt)
  clear hb4 HM3 HD3 HTX
  have HO : Hid (OD w (w4.alloc (.cells #[.string ⟨#[115, 99, 111, 112, 101]⟩, .int .i64 0, .string ⟨asco.toArray⟩, .int .i64 0, .bool false] 50)) (.slice sa sn sc) [.int .i64 kd, .string ⟨fam.toArray⟩, .int .i64 ser, .int .i64 tk, .string ⟨cli.toArray⟩, .string ⟨usr.toArray⟩, .slice ca cn cc, .string ⟨red.toArray⟩, .string ⟨cha.toArray⟩, .string ⟨met.toArray⟩, .string ⟨ver.toArray⟩, .bool rf, .int .i64 edg] [.int .i64 0, .int .i64 acc, .int .i64 ref, .slice aa an ac, .string ⟨acli.toArray⟩, .string ⟨ause.toArray⟩, .bool act, .bool wait] w1.heap.size 0 w4.heap.size asco) := Lib.hid (OD.mk (HM4.out.alloc (.cells (mc (tm nSco asco)).toArray 50)) (HD4.out.alloc _) (Blk.new w4 50 (mc (tm nSco asco))) (by have := HM1.out.r.lt; omega) HD4.out.lt)
  clear HM4 HD4
  have b0 : (path == pAuth) = false := by rw [beq_eq_false_iff_ne]; exact HP.out.1
  have g0 := str_ne b0
  unfold pAuth at b0 g0
  have b1 : (path == pTok) = false := by rw [beq_eq_false_iff_ne]; exact HP.out.2.1
  have g1 := str_ne b1
  unfold pTok at b1 g1
  have b2 : (path == pInt) = false := by rw [beq_eq_false_iff_ne]; exact HP.out.2.2
  have g2 := str_ne b2
  unfold pInt at b2 g2
  unfold mv
  have HRD : Hid (RdM (w4.alloc (.cells #[.string ⟨#[115, 99, 111, 112, 101]⟩, .int .i64 0, .string ⟨asco.toArray⟩, .int .i64 0, .bool false] 50)) (.slice none 0 0) []) := Lib.hid (Rd.nil _ _)
  have HFIT : Hid (fitL ([] : List Mb)) := Lib.hid (fun m hm => by cases hm)
  obtain ⟨l, hll⟩ : ∃ l, l = ([] : List Mb) := ⟨_, rfl⟩
  have HLL := Lib.hid hll
  have HTO : Hid (told path sec fam ⟨asco, acc, ref, act, acli, ause⟩ = l) := Lib.hid (by rw [hll]; unfold told; rw [if_neg HP.out.1, if_neg HP.out.2.1, if_neg HP.out.2.2])
  have HPR := Lib.hid (print_any _ l _ (by rw [hll]; exact HRD.out) (Lib.hid (by rw [hll]; exact HFIT.out)) (by rw [hll]; simp) (Lib.hid (hL.out.on HO.out.b).tab.here))
  obtain ⟨s, hs⟩ : ∃ s, s = (pr l).1 := ⟨_, rfl⟩
  obtain ⟨pe, hpe⟩ : ∃ s, s = (pr l).2 := ⟨_, rfl⟩
  rw [← hs, ← hpe] at HPR
  have HS := Lib.hid (And.intro hs hpe)
  clear hs hpe hll HRD HFIT
  go_wp2_with fail
  refine HPR.out.mono ?_
  rintro e w20 ⟨rfl, hb20⟩
  have HO20 := Lib.hid (HO.out.below hb20)
  clear hb20 HPR
  obtain ⟨E, hE⟩ : ∃ E, E = (0 : Int) := ⟨_, rfl⟩
  have HE := Lib.hid hE
  clear hE
  have d0 := HO20.out.d.cell 0 rfl
  have y0 := HO20.out.r.cell 0 rfl
  have f0 := HO20.out.r.frozen 0
  have y1 := HO20.out.r.cell 1 rfl
  have f1 := HO20.out.r.frozen 1
  by_cases hz : pe = 0
  case neg =>
    have z1 : (pe == 0) = false := by rw [beq_eq_false_iff_ne]; exact hz
    go_wp2_with fail
    try simp only [Exit.inBlock, Exit.then]
    exact ret_rct rfl rfl rfl (rc_set HO20.out.r rfl 0 []) ⟨.inl rfl, below_rc HO20.out.b (by omega) _ _⟩
  case pos =>
  subst hz
  go_wp2_with fail
  try simp only [Exit.inBlock, Exit.then]
  refine ret_rct rfl rfl rfl (rc_set HO20.out.r rfl 200 s) ⟨.inr (.inr ⟨rfl, ?_, s, ?_, rfl⟩), below_rc HO20.out.b (by omega) _ _⟩
  · have hE := HE.out
    exact ⟨fun h => absurd h HP.out.1, fun h => absurd h HP.out.2.1⟩
  · have h1 := HTO.out
    refine (congrArg pr h1).trans ?_
    rw [HS.out.1, show (0 : Int) = (pr l).2 from HS.out.2]
/-- reply.Of -/
theorem of_any (path sec : By) (sv : Value) (c : Gr.Cm) (cv : Value) (a : An) (why : Int) (asc : List By) (av : Value) (wait : Bool) (w : World) (hsv : Rd w 1 sv sec.length (Lib.byteCells sec)) (hl : sec.length ≤ 288230376151711744) (hcs : RdS w cv c.sco) (hc : Gr.CmOk c) (has : RdS w av asc) (hal : asc.length ≤ 1000) (hsco : a.sco = Sc.join (Sc.set asc)) (hcli : a.cli.length ≤ 140737488355000) (huse : a.use.length ≤ 140737488355000) (hL : Hid (LaidB w.heap.size w)) :
    Calls Tryz.prog 14 #[.string ⟨path.toArray⟩, sv, Gr.cmV c cv, anV a why av wait] w fun e w' => OfR path sec c.fam a why e ∧ Below w.heap.size w w' := by
  by_cases hw : why = 0
  case neg => exact of_why path sec sv c cv a why asc av wait w hsv hl hcs hc has hal hsco hcli huse hL hw
  by_cases h1 : path = pAuth
  · exact of_auth path sec sv c cv a why asc av wait w hsv hl hcs hc has hal hsco hcli huse hL hw h1
  by_cases h2 : path = pTok
  · exact of_tok path sec sv c cv a why asc av wait w hsv hl hcs hc has hal hsco hcli huse hL hw h2
  by_cases h3 : path = pInt
  · exact of_int path sec sv c cv a why asc av wait w hsv hl hcs hc has hal hsco hcli huse hL hw h3
  exact of_rest path sec sv c cv a why asc av wait w hsv hl hcs hc has hal hsco hcli huse hL hw ⟨h1, h2, h3⟩
end Go.Proofs.YtffllacphfapnaaGreatDoor.Bk
