/-
  Chapter 20: ReplyBack: the tokens that are told are opened; what isn't active tells nothing else. Printed by gen_reply_back.py.
  (Texts put together: Rl Rm.)
-/
import Derived.Test.YtffllacphfapnaaGreatDoorG35
import Derived.Test.YtffllacphfapnaaGreatDoorG36
import Derived.Test.YtffllacphfapnaaGreatDoorRows
import Derived.Test.YtffllacphfapnaaGreatDoorG03
import Derived.Stop.LaidErr
import Derived.LaidByTextLater
import Derived.Lib.SmallJoins
import Derived.ChangeSlices
import Derived.SizedLaws
namespace Go.Proofs.YtffllacphfapnaaGreatDoor.Bk
open Go.RowKit Js Rp
set_option linter.unusedVariables false
set_option linter.unusedSimpArgs false
set_option maxRecDepth 100000
theorem laid_of {B : Nat} {w : World} (h : Se.LaidS B w) : LaidB B w := ⟨h.tab, h.syn, h.rng⟩
def grt (n m : Nat) : Bool := decide (100 < n) || decide (100 < m)
set_option maxHeartbeats 4000000 in
theorem great_any (c : Gr.Cm) (a : An) (why : Int) (wait : Bool) (ca aa : Option Addr) (cn cc an ac : Nat) (w : World) :
    Calls Tryz.prog 13 #[Gr.cmV c (.slice ca cn cc), anV a why (.slice aa an ac) wait] w fun e w' => e = .returned (.bool (grt cn an)) ∧ Below w.heap.size w w' := by
  have HB : Hid (Below w.heap.size w _) := Lib.hid (((Below.refl _ _).alloc (Nat.le_refl _) (.cells (Gr.cmC c (.slice ca cn cc)).toArray 39)).alloc (by simp) (.cells (anC a why (.slice aa an ac) wait).toArray 41))
  obtain ⟨kd, fam, ser, tk, cli, usr, sco, red, cha, met, ver, rf, edg⟩ := c
  obtain ⟨asco, acc, ref, act, acli, ause⟩ := a
  unfold Gr.cmV anV
  by_cases h1 : 100 < cn
  · have t1 : (100 : Int) < (cn : Int) := by omega
    have HG : Hid (grt cn an = true) := Lib.hid (by simp [grt, h1])
    go_enter Tryz.func13, Tryz.ntmps13
    go_wp2_with fail
    go_ret
    exact ⟨by rw [HG.out]; rfl, HB.out⟩
  · have t1 : ¬ (100 : Int) < (cn : Int) := by omega
    by_cases h2 : 100 < an
    · have t2 : (100 : Int) < (an : Int) := by omega
      have HG : Hid (grt cn an = true) := Lib.hid (by simp [grt, h2])
      go_enter Tryz.func13, Tryz.ntmps13
      go_wp2_with fail
      go_ret
      exact ⟨by rw [HG.out]; rfl, HB.out⟩
    · have t2 : ¬ (100 : Int) < (an : Int) := by omega
      have HG : Hid (grt cn an = false) := Lib.hid (by simp [grt, h1, h2])
      go_enter Tryz.func13, Tryz.ntmps13
      go_wp2_with fail
      go_ret
      exact ⟨by rw [HG.out]; rfl, HB.out⟩
/-- the command, the answer in the law's own blocks -/
structure BM (w W : World) (cc ac : List Value) : Prop where
  c : Blk W w.heap.size 39 cc
  a : Blk W (w.heap.size + 1) 41 ac
  b : Below w.heap.size w W
theorem BM.below {w W W' : World} {cc ac : List Value} (h : BM w W cc ac) (hb : Below W.heap.size W W') : BM w W' cc ac := ⟨h.c.below hb h.c.lt, h.a.below hb h.a.lt, h.b.trans (hb.mono h.b.size)⟩
theorem BM.alloc {w W : World} {cc ac : List Value} (h : BM w W cc ac) (o : Obj) : BM w (W.alloc o) cc ac := ⟨h.c.alloc o, h.a.alloc o, h.b.alloc h.b.size o⟩
theorem BM.start (w : World) (cc ac : List Value) : BM w ((w.alloc (.cells cc.toArray 39)).alloc (.cells ac.toArray 41)) cc ac := by
  have h0 := Blk.new w 39 cc
  have h1 := Blk.new (w.alloc (.cells cc.toArray 39)) 41 ac
  rw [World.size_alloc] at h1
  exact ⟨h0.alloc _, h1, ((Below.refl _ _).alloc (Nat.le_refl _) _).alloc (by simp) _⟩
set_option maxHeartbeats 16000000 in
theorem replyBack_walk (path sec : By) (sv : Value) (c : Gr.Cm) (cv : Value) (a : An) (why : Int) (asc : List By) (av : Value) (wait : Bool) (w : World) (hpl : path.length ≤ 140737488355328) (hsv : Rd w 1 sv sec.length (Lib.byteCells sec)) (hl : sec.length ≤ 288230376151711744) (hcs : RdS w cv c.sco) (hc : c.sco.length ≤ 100 → Gr.CmOk c) (has : RdS w av asc) (hsco : a.sco = Sc.join (Sc.set asc)) (hcli : a.cli.length ≤ 140737488355000) (huse : a.use.length ≤ 140737488355000) (hL : Hid (Se.LaidS w.heap.size w)) :
    Calls Tryz.prog 5 #[.string ⟨path.toArray⟩, sv, Gr.cmV c cv, anV a why av wait] w fun e w' => e = .returned (.bool true) ∧ Below w.heap.size w w' := by
  have HOF := Lib.hid (fun (h1 : c.sco.length ≤ 100) (h2 : asc.length ≤ 100) (W : World) (hb : Below w.heap.size w W) => of_any path sec sv c cv a why asc av wait W (hsv.below hb) hl (hcs.below hb) (hc h1) (has.below hb) (by omega) hsco hcli huse (Lib.hid (laid_of ((hL.out.on hb).mono hb.size))))
  obtain ⟨kd, fam, ser, tk, cli, usr, sco, red, cha, met, ver, rf, edg⟩ := c
  obtain ⟨asco, acc, ref, act, acli, ause⟩ := a
  have HSV := Lib.hid hsv
  have HLEN := Lib.hid (And.intro hpl hl)
  obtain ⟨sa, sc, e1⟩ := hsv.slice
  subst e1
  obtain ⟨ca, cc, e2⟩ := hcs.1.slice
  obtain ⟨aa, ac, e3⟩ := has.1.slice
  simp only at e2 HOF
  obtain ⟨cn, hcn⟩ : ∃ n, n = sco.length := ⟨_, rfl⟩
  obtain ⟨an, han⟩ : ∃ n, n = asc.length := ⟨_, rfl⟩
  obtain ⟨sn, hsn⟩ : ∃ n, n = sec.length := ⟨_, rfl⟩
  rw [← hcn] at e2 HOF
  rw [← han] at e3 HOF
  subst e2
  subst e3
  rw [← hsn] at HOF HSV HLEN ⊢
  have HSN := Lib.hid hsn
  clear hsv hcs has hc hl hsco hcli huse hcn han hsn hpl
  have HM0 := Lib.hid (BM.start w [.int .i64 kd, .string ⟨fam.toArray⟩, .int .i64 ser, .int .i64 tk, .string ⟨cli.toArray⟩, .string ⟨usr.toArray⟩, .slice ca cn cc, .string ⟨red.toArray⟩, .string ⟨cha.toArray⟩, .string ⟨met.toArray⟩, .string ⟨ver.toArray⟩, .bool rf, .int .i64 edg] [.int .i64 why, .int .i64 acc, .int .i64 ref, .slice aa an ac, .string ⟨acli.toArray⟩, .string ⟨ause.toArray⟩, .bool act, .bool wait])
  have HGR := Lib.hid (fun W => great_any ⟨kd, fam, ser, tk, cli, usr, sco, red, cha, met, ver, rf, edg⟩ ⟨asco, acc, ref, act, acli, ause⟩ why wait ca aa cn cc an ac W)
  unfold Gr.cmV anV at HOF HGR ⊢
  go_enter Tryz.func5, Tryz.ntmps5
  go_wp2_with fail
  refine (HGR.out _).mono ?_
  rintro e w1 ⟨rfl, hb1⟩
  have HM1 := Lib.hid (HM0.out.below hb1)
  clear hb1 HGR HM0
  cases hg : grt cn an with
  | true =>
    clear hg
    go_wp2_with fail
    refine (known_any w.heap.size _ HM1.out.b.size (Lib.hid (laid_of (hL.out.on HM1.out.b) : LaidB w.heap.size _))).mono ?_
    rintro e w2 ⟨rfl, hb2⟩
    have HM2 := Lib.hid (HM1.out.below hb2)
    clear hb2
    go_wp2_with fail
    go_ret
    exact ⟨rfl, HM2.out.b⟩
  | false =>
  have hn : cn ≤ 100 ∧ an ≤ 100 := by simpa [grt] using hg
  have HO := Lib.hid (fun W hb => HOF.out hn.1 hn.2 W hb)
  clear hg hn HOF
  have c0 := HM1.out.c.cell 0 rfl
  have c1 := HM1.out.c.cell 1 rfl
  have c2 := HM1.out.c.cell 2 rfl
  have c3 := HM1.out.c.cell 3 rfl
  have c4 := HM1.out.c.cell 4 rfl
  have c5 := HM1.out.c.cell 5 rfl
  have c6 := HM1.out.c.cell 6 rfl
  have c7 := HM1.out.c.cell 7 rfl
  have c8 := HM1.out.c.cell 8 rfl
  have c9 := HM1.out.c.cell 9 rfl
  have c10 := HM1.out.c.cell 10 rfl
  have c11 := HM1.out.c.cell 11 rfl
  have c12 := HM1.out.c.cell 12 rfl
  have a0 := HM1.out.a.cell 0 rfl
  have a1 := HM1.out.a.cell 1 rfl
  have a2 := HM1.out.a.cell 2 rfl
  have a3 := HM1.out.a.cell 3 rfl
  have a4 := HM1.out.a.cell 4 rfl
  have a5 := HM1.out.a.cell 5 rfl
  have a6 := HM1.out.a.cell 6 rfl
  have a7 := HM1.out.a.cell 7 rfl
  go_wp2_with fail
  refine (HO.out _ HM1.out.b).mono ?_
  rintro e w2 ⟨hof, hb2⟩
  have HM2 := Lib.hid (HM1.out.below hb2)
  clear hb2 HO HM1
  clear c0 c1 c2 c3 c4 c5 c6 c7 c8 c9 c10 c11 c12 a0 a1 a2 a3 a4 a5 a6 a7
  rcases hof with rfl | ⟨hw, u, h1, h8, hu, rfl⟩ | ⟨hw, hfine, s, hpr, rfl⟩
  · have hg0 : ∀ (op : BinOp) (x y : Operand) (xs ys : Array Value) (w : World), (eqGuard op 23 x y (.agg xs) (.agg ys)).run Tryz.prog w = .ok () w := guard_rs
    have he0 : ∀ w, (binOp .eql 23 (.agg #[.int .i64 0, .string ⟨#[]⟩]) (.agg #[.int .i64 0, .string ⟨#[]⟩])).run Tryz.prog w = .ok (.bool true) w := fun w => eql_rs 0 0 [] [] w
    have HM3 : Hid (BM w (w2.alloc (.cells #[.int .i64 0, .string ⟨#[]⟩] 23)) [.int .i64 kd, .string ⟨fam.toArray⟩, .int .i64 ser, .int .i64 tk, .string ⟨cli.toArray⟩, .string ⟨usr.toArray⟩, .slice ca cn cc, .string ⟨red.toArray⟩, .string ⟨cha.toArray⟩, .string ⟨met.toArray⟩, .string ⟨ver.toArray⟩, .bool rf, .int .i64 edg] [.int .i64 why, .int .i64 acc, .int .i64 ref, .slice aa an ac, .string ⟨acli.toArray⟩, .string ⟨ause.toArray⟩, .bool act, .bool wait]) := Lib.hid (HM2.out.alloc _)
    have HX3 : Hid (Blk (w2.alloc (.cells #[.int .i64 0, .string ⟨#[]⟩] 23)) w2.heap.size 23 (rc 0 [])) := Lib.hid (Blk.new w2 _ _)
    unfold rv
    go_wp2_with fail
    refine (known_any w.heap.size _ HM3.out.b.size (Lib.hid (laid_of (hL.out.on HM3.out.b) : LaidB w.heap.size _))).mono ?_
    rintro e w3 ⟨rfl, hb3⟩
    have HM4 := Lib.hid (HM3.out.below hb3)
    have HX4 := Lib.hid (HX3.out.below hb3 HX3.out.lt)
    clear hb3
    go_wp2_with fail
    refine (known_any w.heap.size _ HM4.out.b.size (Lib.hid (laid_of (hL.out.on HM4.out.b) : LaidB w.heap.size _))).mono ?_
    rintro e w4 ⟨rfl, hb4⟩
    have HM5 := Lib.hid (HM4.out.below hb4)
    have HX5 := Lib.hid (HX4.out.below hb4 HX4.out.lt)
    clear hb4
    have x0 := HX5.out.cell 0 rfl
    have x1 := HX5.out.cell 1 rfl
    go_wp2_with fail
    go_ret
    exact ⟨rfl, HM5.out.b⟩
  · have HUW := Lib.hid (And.intro hw (And.intro h1 (And.intro h8 hu)))
    have HM3 : Hid (BM w (w2.alloc (.cells #[.int .i64 (st u), .string ⟨(bd u).toArray⟩] 23)) [.int .i64 kd, .string ⟨fam.toArray⟩, .int .i64 ser, .int .i64 tk, .string ⟨cli.toArray⟩, .string ⟨usr.toArray⟩, .slice ca cn cc, .string ⟨red.toArray⟩, .string ⟨cha.toArray⟩, .string ⟨met.toArray⟩, .string ⟨ver.toArray⟩, .bool rf, .int .i64 edg] [.int .i64 why, .int .i64 acc, .int .i64 ref, .slice aa an ac, .string ⟨acli.toArray⟩, .string ⟨ause.toArray⟩, .bool act, .bool wait]) := Lib.hid (HM2.out.alloc _)
    have HX3 : Hid (Blk (w2.alloc (.cells #[.int .i64 (st u), .string ⟨(bd u).toArray⟩] 23)) w2.heap.size 23 (rc (st u) (bd u))) := Lib.hid (Blk.new w2 _ _)
    clear hw h1 h8 hu
    unfold rv
    go_wp2_with fail
    refine (known_any w.heap.size _ HM3.out.b.size (Lib.hid (laid_of (hL.out.on HM3.out.b) : LaidB w.heap.size _))).mono ?_
    rintro e w3 ⟨rfl, hb3⟩
    have HM4 := Lib.hid (HM3.out.below hb3)
    have HX4 := Lib.hid (HX3.out.below hb3 HX3.out.lt)
    have HCL : Hid (Calls Tryz.prog 7 #[rv (st u) (bd u)] w3 fun e w' => e = .returned (.tuple #[.int .i64 u, .bool true]) ∧ Below w3.heap.size w3 w') := Lib.hid (by
      have h := class_any (st u) (bd u) w3 (Lib.hid (laid_of ((hL.out.on HM4.out.b).mono HM4.out.b.size)))
      unfold ClR at h
      rw [cl_self u HUW.out.2.1 HUW.out.2.2.1] at h
      exact h)
    unfold rv at HCL
    clear hb3
    have x0 := HX4.out.cell 0 rfl
    have x1 := HX4.out.cell 1 rfl
    go_wp2_with fail
    refine HCL.out.mono ?_
    rintro e w4 ⟨rfl, hb4⟩
    have HM5 := Lib.hid (HM4.out.below hb4)
    have HX5 := Lib.hid (HX4.out.below hb4 HX4.out.lt)
    clear hb4 HCL x0 x1
    have x0 := HX5.out.cell 0 rfl
    have HST : Hid ((st u == 200) = false) := Lib.hid (by unfold st; split <;> (try split) <;> rfl)
    have es := HST.out
    have es2 : (st u != 200) = true := by simp only [bne, es]; rfl
    rcases HUW.out.2.2.2 with hu | ⟨hu, hu1⟩
    · subst hu
      have e1 : ((u : Int) == 0) = false := by rw [beq_eq_false_iff_ne]; exact HUW.out.1
      have a0 := HM5.out.a.cell 0 rfl
      go_wp2_with fail
      go_ret
      exact ⟨rfl, HM5.out.b⟩
    · subst hu1
      have e1 : (why == 0) = false := by rw [beq_eq_false_iff_ne]; exact HUW.out.1
      have e2 : (((1 : Nat) : Int) == why) = false := by rw [beq_eq_false_iff_ne]; intro h; have := HUW.out.1; omega
      have e3 : ((1 : Int) == why) = false := e2
      have e4 : ¬ (1 : Int) = why := by omega
      have hw0 := HUW.out.1
      have a0 := HM5.out.a.cell 0 rfl
      rcases (show (why < 0) ∨ 8 < why by omega) with h | h
      · have t1 : ¬ (0 : Int) ≤ why := by omega
        clear h hu hw0
        go_wp2_with fail
        go_ret
        exact ⟨rfl, HM5.out.b⟩
      · have t1 : (0 : Int) ≤ why := by omega
        have t2 : ¬ why ≤ (8 : Int) := by omega
        clear h hu hw0
        go_wp2_with fail
        go_ret
        exact ⟨rfl, HM5.out.b⟩
  · subst hw
    have HT := Lib.hid (told_cl path sec fam ⟨asco, acc, ref, act, acli, ause⟩ s hpr)
    have HFN := Lib.hid hfine
    obtain ⟨l, hll⟩ : ∃ l, l = told path sec fam ⟨asco, acc, ref, act, acli, ause⟩ := ⟨_, rfl⟩
    have HK : Hid (∀ k : Nat, 1 ≤ k → k ≤ 3 → hasN l (nK k) = isK path ⟨asco, acc, ref, act, acli, ause⟩ k) := Lib.hid (fun k h1 h3 => by rw [hll]; exact has_k path sec fam _ k h1 h3)
    have HG : Hid (∀ k : Nat, 1 ≤ k → k ≤ 3 → isK path ⟨asco, acc, ref, act, acli, ause⟩ k = true → (getM l (nK k)).tx = tok sec k fam (serK ⟨asco, acc, ref, act, acli, ause⟩ k) ∧ Se.Right ⟨k, fam, serK ⟨asco, acc, ref, act, acli, ause⟩ k⟩) := Lib.hid (fun k h1 h3 hk => by rw [hll]; exact get_k path sec fam _ k h1 h3 hfine hk)
    have HAC : Hid (hasN l nAct = (path == pInt) ∧ (path = pInt → (getM l nAct).b = act ∧ (act = false → l.length = 1))) := Lib.hid (by rw [hll]; exact has_act path sec fam _)
    rw [← hll] at HT
    have HLL : Hid (l.length ≤ 1000) := Lib.hid (by
      rw [hll]; unfold told
      repeat' split
      all_goals simp)
    clear hfine hpr hll
    have HM3 : Hid (BM w (w2.alloc (.cells #[.int .i64 200, .string ⟨s.toArray⟩] 23)) [.int .i64 kd, .string ⟨fam.toArray⟩, .int .i64 ser, .int .i64 tk, .string ⟨cli.toArray⟩, .string ⟨usr.toArray⟩, .slice ca cn cc, .string ⟨red.toArray⟩, .string ⟨cha.toArray⟩, .string ⟨met.toArray⟩, .string ⟨ver.toArray⟩, .bool rf, .int .i64 edg] [.int .i64 0, .int .i64 acc, .int .i64 ref, .slice aa an ac, .string ⟨acli.toArray⟩, .string ⟨ause.toArray⟩, .bool act, .bool wait]) := Lib.hid (HM2.out.alloc _)
    have HX3 : Hid (Blk (w2.alloc (.cells #[.int .i64 200, .string ⟨s.toArray⟩] 23)) w2.heap.size 23 (rc 200 s)) := Lib.hid (Blk.new w2 _ _)
    unfold rv
    go_wp2_with fail
    refine (known_any w.heap.size _ HM3.out.b.size (Lib.hid (laid_of (hL.out.on HM3.out.b) : LaidB w.heap.size _))).mono ?_
    rintro e w3 ⟨rfl, hb3⟩
    have HM4 := Lib.hid (HM3.out.below hb3)
    have HX4 := Lib.hid (HX3.out.below hb3 HX3.out.lt)
    have HCL : Hid (Calls Tryz.prog 7 #[rv 200 s] w3 fun e w' => e = .returned (.tuple #[.int .i64 0, .bool true]) ∧ Below w3.heap.size w3 w') := Lib.hid (by
      have h := class_any 200 s w3 (Lib.hid (laid_of ((hL.out.on HM4.out.b).mono HM4.out.b.size)))
      unfold ClR at h
      rw [HT.out.2] at h
      exact h)
    unfold rv at HCL
    clear hb3
    have x0 := HX4.out.cell 0 rfl
    have x1 := HX4.out.cell 1 rfl
    go_wp2_with fail
    refine HCL.out.mono ?_
    rintro e w4 ⟨rfl, hb4⟩
    have HM5 := Lib.hid (HM4.out.below hb4)
    have HX5 := Lib.hid (HX4.out.below hb4 HX4.out.lt)
    have HPA := Lib.hid (jparse_any s w4 (Lib.hid (laid_of ((hL.out.on HM5.out.b).mono HM5.out.b.size))))
    clear hb4 HCL x0 x1
    have x0 := HX5.out.cell 0 rfl
    have x1 := HX5.out.cell 1 rfl
    have a0 := HM5.out.a.cell 0 rfl
    go_wp2_with fail
    refine HPA.out.mono ?_
    rintro e w5 hpa
    unfold PaR at hpa
    rw [HT.out.1] at hpa
    obtain ⟨v, rfl, hown, hb5⟩ := hpa
    have HM6 := Lib.hid (HM5.out.below hb5)
    have HX6 := Lib.hid (HX5.out.below hb5 HX5.out.lt)
    have HRD : Hid (RdM w5 v l) := Lib.hid (Rd.of_own hown)
    obtain ⟨va, vc, hv⟩ := (Rd.of_own hown).slice
    subst hv
    clear hb5 hown HPA x0 x1 a0
    have x0 := HX6.out.cell 0 rfl
    simp only
    obtain ⟨ln, hln⟩ : ∃ n, n = l.length := ⟨_, rfl⟩
    rw [← hln] at HRD HLL ⊢
    have HLN := Lib.hid hln
    clear hln
    go_wp2_with fail
    have HM7 : Hid (BM w (w5.alloc (.cells #[.string ⟨#[]⟩, .string ⟨#[99, 111, 100, 101]⟩, .string ⟨#[97, 99, 99, 101, 115, 115, 95, 116, 111, 107, 101, 110]⟩, .string ⟨#[114, 101, 102, 114, 101, 115, 104, 95, 116, 111, 107, 101, 110]⟩] 9)) [.int .i64 kd, .string ⟨fam.toArray⟩, .int .i64 ser, .int .i64 tk, .string ⟨cli.toArray⟩, .string ⟨usr.toArray⟩, .slice ca cn cc, .string ⟨red.toArray⟩, .string ⟨cha.toArray⟩, .string ⟨met.toArray⟩, .string ⟨ver.toArray⟩, .bool rf, .int .i64 edg] [.int .i64 0, .int .i64 acc, .int .i64 ref, .slice aa an ac, .string ⟨acli.toArray⟩, .string ⟨ause.toArray⟩, .bool act, .bool wait]) := Lib.hid (HM6.out.alloc _)
    have HT7 : Hid (Blk (w5.alloc (.cells #[.string ⟨#[]⟩, .string ⟨#[99, 111, 100, 101]⟩, .string ⟨#[97, 99, 99, 101, 115, 115, 95, 116, 111, 107, 101, 110]⟩, .string ⟨#[114, 101, 102, 114, 101, 115, 104, 95, 116, 111, 107, 101, 110]⟩] 9)) w5.heap.size 9 [.string ⟨#[]⟩, .string ⟨nCode.toArray⟩, .string ⟨nAcc.toArray⟩, .string ⟨nRef.toArray⟩]) := Lib.hid (Blk.new w5 _ _)
    have HR7 : Hid (RdM (w5.alloc (.cells #[.string ⟨#[]⟩, .string ⟨#[99, 111, 100, 101]⟩, .string ⟨#[97, 99, 99, 101, 115, 115, 95, 116, 111, 107, 101, 110]⟩, .string ⟨#[114, 101, 102, 114, 101, 115, 104, 95, 116, 111, 107, 101, 110]⟩] 9)) (.slice va ln vc) l) := Lib.hid (HRD.out.below ((Below.refl _ _).alloc (Nat.le_refl _) _))
    clear x0
    go_loopw [8, 16] (fun r i wr => ∃ k : Nat, 1 ≤ k ∧ k ≤ 4 ∧ r = .bool false ∧ i = .int .i64 (k : Int) ∧ BM w wr [.int .i64 kd, .string ⟨fam.toArray⟩, .int .i64 ser, .int .i64 tk, .string ⟨cli.toArray⟩, .string ⟨usr.toArray⟩, .slice ca cn cc, .string ⟨red.toArray⟩, .string ⟨cha.toArray⟩, .string ⟨met.toArray⟩, .string ⟨ver.toArray⟩, .bool rf, .int .i64 edg] [.int .i64 0, .int .i64 acc, .int .i64 ref, .slice aa an ac, .string ⟨acli.toArray⟩, .string ⟨ause.toArray⟩, .bool act, .bool wait] ∧ Blk wr w5.heap.size 9 [.string ⟨#[]⟩, .string ⟨nCode.toArray⟩, .string ⟨nAcc.toArray⟩, .string ⟨nRef.toArray⟩] ∧ RdM wr (.slice va ln vc) l) (fun _ i _ => 4 - (intOf i).toNat)
    case atStart => exact ⟨1, by omega, by omega, rfl, rfl, HM7.out, HT7.out, HR7.out⟩
    case round =>
      clear HM6 HX6 HM7 HT7 HR7 HM5 HX5 HM4 HX4 HM3 HX3 HM2 HRD
      obtain ⟨k, hk1, hk4, rfl, rfl, hm, ht, hr⟩ := hrel
      have HM := Lib.hid hm
      have HTB := Lib.hid ht
      have HR := Lib.hid hr
      clear hm ht hr
      obtain hk | hk | hk | hk : k = 1 ∨ k = 2 ∨ k = 3 ∨ k = 4 := by omega
      · subst hk
        clear hk1 hk4
        have t := HTB.out.cell 1 rfl
        unfold nCode at t
        obtain ⟨⟨mn, mk, mt, mi, mb⟩, hm⟩ : ∃ m, m = getM l nCode := ⟨_, rfl⟩
        have HGE := Lib.hid (get_any _ l nCode wr HR.out (by have := HLL.out; have := HLN.out; omega))
        have HH : Hid (hasN l nCode = isK path ⟨asco, acc, ref, act, acli, ause⟩ 1) := Lib.hid (HK.out 1 (by omega) (by omega))
        rw [HH.out, ← hm] at HGE
        unfold mv nCode at HGE
        simp only at HGE
        have HMM := Lib.hid hm
        clear hm
        go_wp2_with fail
        refine HGE.out.mono ?_
        rintro e w7 ⟨rfl, hb7⟩
        have HM8 : Hid (BM w (w7.alloc (.cells #[.string ⟨mn.toArray⟩, .int .i64 mk, .string ⟨mt.toArray⟩, .int .i64 mi, .bool mb] 50)) [.int .i64 kd, .string ⟨fam.toArray⟩, .int .i64 ser, .int .i64 tk, .string ⟨cli.toArray⟩, .string ⟨usr.toArray⟩, .slice ca cn cc, .string ⟨red.toArray⟩, .string ⟨cha.toArray⟩, .string ⟨met.toArray⟩, .string ⟨ver.toArray⟩, .bool rf, .int .i64 edg] [.int .i64 0, .int .i64 acc, .int .i64 ref, .slice aa an ac, .string ⟨acli.toArray⟩, .string ⟨ause.toArray⟩, .bool act, .bool wait]) := Lib.hid ((HM.out.below hb7).alloc _)
        have HTB8 : Hid (Blk (w7.alloc (.cells #[.string ⟨mn.toArray⟩, .int .i64 mk, .string ⟨mt.toArray⟩, .int .i64 mi, .bool mb] 50)) w5.heap.size 9 [.string ⟨#[]⟩, .string ⟨nCode.toArray⟩, .string ⟨nAcc.toArray⟩, .string ⟨nRef.toArray⟩]) := Lib.hid ((HTB.out.below hb7 HTB.out.lt).alloc _)
        have HR8 : Hid (RdM (w7.alloc (.cells #[.string ⟨mn.toArray⟩, .int .i64 mk, .string ⟨mt.toArray⟩, .int .i64 mi, .bool mb] 50)) (.slice va ln vc) l) := Lib.hid ((HR.out.below hb7).below ((Below.refl _ _).alloc (Nat.le_refl _) _))
        clear hb7 HGE t
        cases hi : isK path ⟨asco, acc, ref, act, acli, ause⟩ 1 with
        | true =>
          have hg := HG.out 1 (by omega) (by omega) hi
          have hmt : mt = tok sec 1 fam 0 := (congrArg Mb.tx HMM.out).trans hg.1
          have HRI : Hid (Se.Right ⟨1, fam, 0⟩) := Lib.hid hg.2
          have HLM : Hid (mt.length ≤ 1000) := Lib.hid (by rw [hmt]; exact tok_len _ _ _ _)
          have HOP : Hid (Se.opV sec mt = .tuple #[.agg #[.int .i64 1, .string ⟨fam.toArray⟩, .int .i64 0], .int .i64 0]) := Lib.hid (by unfold Se.opV; rw [hmt]; unfold tok; rw [Se.opn_mk sec _ HRI.out]; rfl)
          have hb : (path == [47, 97, 117, 116, 104, 111, 114, 105, 122, 101]) = true := by simpa [isK, pAuth] using hi
          have HOPN := Lib.hid (Se.open_any (.slice sa sn sc) sec mt _ (by rw [← HSN.out]; exact HSV.out.below HM8.out.b) (by rw [← HSN.out]; exact HLEN.out.2) (by have := HLM.out; omega) (Lib.hid ((hL.out.on HM8.out.b).mono HM8.out.b.size)))
          rw [HOP.out] at HOPN
          clear hi hg hmt
          go_wp2_with fail
          refine HOPN.out.mono ?_
          rintro e w8 ⟨rfl, hb8⟩
          have HM9 : Hid (BM w (w8.alloc (.cells #[.int .i64 1, .string ⟨fam.toArray⟩, .int .i64 0] 54)) [.int .i64 kd, .string ⟨fam.toArray⟩, .int .i64 ser, .int .i64 tk, .string ⟨cli.toArray⟩, .string ⟨usr.toArray⟩, .slice ca cn cc, .string ⟨red.toArray⟩, .string ⟨cha.toArray⟩, .string ⟨met.toArray⟩, .string ⟨ver.toArray⟩, .bool rf, .int .i64 edg] [.int .i64 0, .int .i64 acc, .int .i64 ref, .slice aa an ac, .string ⟨acli.toArray⟩, .string ⟨ause.toArray⟩, .bool act, .bool wait]) := Lib.hid ((HM8.out.below hb8).alloc _)
          have HTB9 : Hid (Blk (w8.alloc (.cells #[.int .i64 1, .string ⟨fam.toArray⟩, .int .i64 0] 54)) w5.heap.size 9 [.string ⟨#[]⟩, .string ⟨nCode.toArray⟩, .string ⟨nAcc.toArray⟩, .string ⟨nRef.toArray⟩]) := Lib.hid ((HTB8.out.below hb8 HTB8.out.lt).alloc _)
          have HR9 : Hid (RdM (w8.alloc (.cells #[.int .i64 1, .string ⟨fam.toArray⟩, .int .i64 0] 54)) (.slice va ln vc) l) := Lib.hid ((HR8.out.below hb8).below ((Below.refl _ _).alloc (Nat.le_refl _) _))
          clear hb8 HOPN
          have c1 := HM9.out.c.cell 1 rfl
          have a1 := HM9.out.a.cell 1 rfl
          have a2 := HM9.out.a.cell 2 rfl
          go_wp2_with fail
          go_roundw
          case rel => exact ⟨2, by omega, by omega, rfl, by go_num, HM9.out, HTB9.out, HR9.out⟩
          case measure => simp [intOf]
        | false =>
          have hmt : mt = [] := (congrArg Mb.tx HMM.out).trans (by rw [getM_none l nCode (by rw [HH.out, hi])]; rfl)
          subst hmt
          have HLM : Hid (([] : By).length ≤ 1000) := Lib.hid (by simp)
          have HOP : Hid (Se.opV sec [] = .tuple #[.agg #[.int .i64 0, .string ⟨#[]⟩, .int .i64 0], .int .i64 3]) := Lib.hid (Se.opV_no rfl)
          have hb : (path == [47, 97, 117, 116, 104, 111, 114, 105, 122, 101]) = false := by simpa [isK, pAuth] using hi
          have HOPN := Lib.hid (Se.open_any (.slice sa sn sc) sec [] _ (by rw [← HSN.out]; exact HSV.out.below HM8.out.b) (by rw [← HSN.out]; exact HLEN.out.2) (by have := HLM.out; omega) (Lib.hid ((hL.out.on HM8.out.b).mono HM8.out.b.size)))
          rw [HOP.out] at HOPN
          clear hi
          go_wp2_with fail
          refine HOPN.out.mono ?_
          rintro e w8 ⟨rfl, hb8⟩
          have HM9 : Hid (BM w (w8.alloc (.cells #[.int .i64 0, .string ⟨#[]⟩, .int .i64 0] 54)) [.int .i64 kd, .string ⟨fam.toArray⟩, .int .i64 ser, .int .i64 tk, .string ⟨cli.toArray⟩, .string ⟨usr.toArray⟩, .slice ca cn cc, .string ⟨red.toArray⟩, .string ⟨cha.toArray⟩, .string ⟨met.toArray⟩, .string ⟨ver.toArray⟩, .bool rf, .int .i64 edg] [.int .i64 0, .int .i64 acc, .int .i64 ref, .slice aa an ac, .string ⟨acli.toArray⟩, .string ⟨ause.toArray⟩, .bool act, .bool wait]) := Lib.hid ((HM8.out.below hb8).alloc _)
          have HTB9 : Hid (Blk (w8.alloc (.cells #[.int .i64 0, .string ⟨#[]⟩, .int .i64 0] 54)) w5.heap.size 9 [.string ⟨#[]⟩, .string ⟨nCode.toArray⟩, .string ⟨nAcc.toArray⟩, .string ⟨nRef.toArray⟩]) := Lib.hid ((HTB8.out.below hb8 HTB8.out.lt).alloc _)
          have HR9 : Hid (RdM (w8.alloc (.cells #[.int .i64 0, .string ⟨#[]⟩, .int .i64 0] 54)) (.slice va ln vc) l) := Lib.hid ((HR8.out.below hb8).below ((Below.refl _ _).alloc (Nat.le_refl _) _))
          clear hb8 HOPN
          have c1 := HM9.out.c.cell 1 rfl
          have a1 := HM9.out.a.cell 1 rfl
          have a2 := HM9.out.a.cell 2 rfl
          go_wp2_with fail
          go_roundw
          case rel => exact ⟨2, by omega, by omega, rfl, by go_num, HM9.out, HTB9.out, HR9.out⟩
          case measure => simp [intOf]
      · subst hk
        clear hk1 hk4
        have t := HTB.out.cell 2 rfl
        unfold nAcc at t
        obtain ⟨⟨mn, mk, mt, mi, mb⟩, hm⟩ : ∃ m, m = getM l nAcc := ⟨_, rfl⟩
        have HGE := Lib.hid (get_any _ l nAcc wr HR.out (by have := HLL.out; have := HLN.out; omega))
        have HH : Hid (hasN l nAcc = isK path ⟨asco, acc, ref, act, acli, ause⟩ 2) := Lib.hid (HK.out 2 (by omega) (by omega))
        rw [HH.out, ← hm] at HGE
        unfold mv nAcc at HGE
        simp only at HGE
        have HMM := Lib.hid hm
        clear hm
        go_wp2_with fail
        refine HGE.out.mono ?_
        rintro e w7 ⟨rfl, hb7⟩
        have HM8 : Hid (BM w (w7.alloc (.cells #[.string ⟨mn.toArray⟩, .int .i64 mk, .string ⟨mt.toArray⟩, .int .i64 mi, .bool mb] 50)) [.int .i64 kd, .string ⟨fam.toArray⟩, .int .i64 ser, .int .i64 tk, .string ⟨cli.toArray⟩, .string ⟨usr.toArray⟩, .slice ca cn cc, .string ⟨red.toArray⟩, .string ⟨cha.toArray⟩, .string ⟨met.toArray⟩, .string ⟨ver.toArray⟩, .bool rf, .int .i64 edg] [.int .i64 0, .int .i64 acc, .int .i64 ref, .slice aa an ac, .string ⟨acli.toArray⟩, .string ⟨ause.toArray⟩, .bool act, .bool wait]) := Lib.hid ((HM.out.below hb7).alloc _)
        have HTB8 : Hid (Blk (w7.alloc (.cells #[.string ⟨mn.toArray⟩, .int .i64 mk, .string ⟨mt.toArray⟩, .int .i64 mi, .bool mb] 50)) w5.heap.size 9 [.string ⟨#[]⟩, .string ⟨nCode.toArray⟩, .string ⟨nAcc.toArray⟩, .string ⟨nRef.toArray⟩]) := Lib.hid ((HTB.out.below hb7 HTB.out.lt).alloc _)
        have HR8 : Hid (RdM (w7.alloc (.cells #[.string ⟨mn.toArray⟩, .int .i64 mk, .string ⟨mt.toArray⟩, .int .i64 mi, .bool mb] 50)) (.slice va ln vc) l) := Lib.hid ((HR.out.below hb7).below ((Below.refl _ _).alloc (Nat.le_refl _) _))
        clear hb7 HGE t
        cases hi : isK path ⟨asco, acc, ref, act, acli, ause⟩ 2 with
        | true =>
          have hg := HG.out 2 (by omega) (by omega) hi
          have hmt : mt = tok sec 2 fam acc := (congrArg Mb.tx HMM.out).trans hg.1
          have HRI : Hid (Se.Right ⟨2, fam, acc⟩) := Lib.hid hg.2
          have HLM : Hid (mt.length ≤ 1000) := Lib.hid (by rw [hmt]; exact tok_len _ _ _ _)
          have HOP : Hid (Se.opV sec mt = .tuple #[.agg #[.int .i64 2, .string ⟨fam.toArray⟩, .int .i64 acc], .int .i64 0]) := Lib.hid (by unfold Se.opV; rw [hmt]; unfold tok; rw [Se.opn_mk sec _ HRI.out]; rfl)
          have hb : (path == [47, 116, 111, 107, 101, 110]) = true := by simpa [isK, pTok] using hi
          have HOPN := Lib.hid (Se.open_any (.slice sa sn sc) sec mt _ (by rw [← HSN.out]; exact HSV.out.below HM8.out.b) (by rw [← HSN.out]; exact HLEN.out.2) (by have := HLM.out; omega) (Lib.hid ((hL.out.on HM8.out.b).mono HM8.out.b.size)))
          rw [HOP.out] at HOPN
          clear hi hg hmt
          go_wp2_with fail
          refine HOPN.out.mono ?_
          rintro e w8 ⟨rfl, hb8⟩
          have HM9 : Hid (BM w (w8.alloc (.cells #[.int .i64 2, .string ⟨fam.toArray⟩, .int .i64 acc] 54)) [.int .i64 kd, .string ⟨fam.toArray⟩, .int .i64 ser, .int .i64 tk, .string ⟨cli.toArray⟩, .string ⟨usr.toArray⟩, .slice ca cn cc, .string ⟨red.toArray⟩, .string ⟨cha.toArray⟩, .string ⟨met.toArray⟩, .string ⟨ver.toArray⟩, .bool rf, .int .i64 edg] [.int .i64 0, .int .i64 acc, .int .i64 ref, .slice aa an ac, .string ⟨acli.toArray⟩, .string ⟨ause.toArray⟩, .bool act, .bool wait]) := Lib.hid ((HM8.out.below hb8).alloc _)
          have HTB9 : Hid (Blk (w8.alloc (.cells #[.int .i64 2, .string ⟨fam.toArray⟩, .int .i64 acc] 54)) w5.heap.size 9 [.string ⟨#[]⟩, .string ⟨nCode.toArray⟩, .string ⟨nAcc.toArray⟩, .string ⟨nRef.toArray⟩]) := Lib.hid ((HTB8.out.below hb8 HTB8.out.lt).alloc _)
          have HR9 : Hid (RdM (w8.alloc (.cells #[.int .i64 2, .string ⟨fam.toArray⟩, .int .i64 acc] 54)) (.slice va ln vc) l) := Lib.hid ((HR8.out.below hb8).below ((Below.refl _ _).alloc (Nat.le_refl _) _))
          clear hb8 HOPN
          have c1 := HM9.out.c.cell 1 rfl
          have a1 := HM9.out.a.cell 1 rfl
          have a2 := HM9.out.a.cell 2 rfl
          go_wp2_with fail
          go_roundw
          case rel => exact ⟨3, by omega, by omega, rfl, by go_num, HM9.out, HTB9.out, HR9.out⟩
          case measure => simp [intOf]
        | false =>
          have hmt : mt = [] := (congrArg Mb.tx HMM.out).trans (by rw [getM_none l nAcc (by rw [HH.out, hi])]; rfl)
          subst hmt
          have HLM : Hid (([] : By).length ≤ 1000) := Lib.hid (by simp)
          have HOP : Hid (Se.opV sec [] = .tuple #[.agg #[.int .i64 0, .string ⟨#[]⟩, .int .i64 0], .int .i64 3]) := Lib.hid (Se.opV_no rfl)
          have hb : (path == [47, 116, 111, 107, 101, 110]) = false := by simpa [isK, pTok] using hi
          have HOPN := Lib.hid (Se.open_any (.slice sa sn sc) sec [] _ (by rw [← HSN.out]; exact HSV.out.below HM8.out.b) (by rw [← HSN.out]; exact HLEN.out.2) (by have := HLM.out; omega) (Lib.hid ((hL.out.on HM8.out.b).mono HM8.out.b.size)))
          rw [HOP.out] at HOPN
          clear hi
          go_wp2_with fail
          refine HOPN.out.mono ?_
          rintro e w8 ⟨rfl, hb8⟩
          have HM9 : Hid (BM w (w8.alloc (.cells #[.int .i64 0, .string ⟨#[]⟩, .int .i64 0] 54)) [.int .i64 kd, .string ⟨fam.toArray⟩, .int .i64 ser, .int .i64 tk, .string ⟨cli.toArray⟩, .string ⟨usr.toArray⟩, .slice ca cn cc, .string ⟨red.toArray⟩, .string ⟨cha.toArray⟩, .string ⟨met.toArray⟩, .string ⟨ver.toArray⟩, .bool rf, .int .i64 edg] [.int .i64 0, .int .i64 acc, .int .i64 ref, .slice aa an ac, .string ⟨acli.toArray⟩, .string ⟨ause.toArray⟩, .bool act, .bool wait]) := Lib.hid ((HM8.out.below hb8).alloc _)
          have HTB9 : Hid (Blk (w8.alloc (.cells #[.int .i64 0, .string ⟨#[]⟩, .int .i64 0] 54)) w5.heap.size 9 [.string ⟨#[]⟩, .string ⟨nCode.toArray⟩, .string ⟨nAcc.toArray⟩, .string ⟨nRef.toArray⟩]) := Lib.hid ((HTB8.out.below hb8 HTB8.out.lt).alloc _)
          have HR9 : Hid (RdM (w8.alloc (.cells #[.int .i64 0, .string ⟨#[]⟩, .int .i64 0] 54)) (.slice va ln vc) l) := Lib.hid ((HR8.out.below hb8).below ((Below.refl _ _).alloc (Nat.le_refl _) _))
          clear hb8 HOPN
          have c1 := HM9.out.c.cell 1 rfl
          have a1 := HM9.out.a.cell 1 rfl
          have a2 := HM9.out.a.cell 2 rfl
          go_wp2_with fail
          go_roundw
          case rel => exact ⟨3, by omega, by omega, rfl, by go_num, HM9.out, HTB9.out, HR9.out⟩
          case measure => simp [intOf]
      · subst hk
        clear hk1 hk4
        have t := HTB.out.cell 3 rfl
        unfold nRef at t
        obtain ⟨⟨mn, mk, mt, mi, mb⟩, hm⟩ : ∃ m, m = getM l nRef := ⟨_, rfl⟩
        have HGE := Lib.hid (get_any _ l nRef wr HR.out (by have := HLL.out; have := HLN.out; omega))
        have HH : Hid (hasN l nRef = isK path ⟨asco, acc, ref, act, acli, ause⟩ 3) := Lib.hid (HK.out 3 (by omega) (by omega))
        rw [HH.out, ← hm] at HGE
        unfold mv nRef at HGE
        simp only at HGE
        have HMM := Lib.hid hm
        clear hm
        go_wp2_with fail
        refine HGE.out.mono ?_
        rintro e w7 ⟨rfl, hb7⟩
        have HM8 : Hid (BM w (w7.alloc (.cells #[.string ⟨mn.toArray⟩, .int .i64 mk, .string ⟨mt.toArray⟩, .int .i64 mi, .bool mb] 50)) [.int .i64 kd, .string ⟨fam.toArray⟩, .int .i64 ser, .int .i64 tk, .string ⟨cli.toArray⟩, .string ⟨usr.toArray⟩, .slice ca cn cc, .string ⟨red.toArray⟩, .string ⟨cha.toArray⟩, .string ⟨met.toArray⟩, .string ⟨ver.toArray⟩, .bool rf, .int .i64 edg] [.int .i64 0, .int .i64 acc, .int .i64 ref, .slice aa an ac, .string ⟨acli.toArray⟩, .string ⟨ause.toArray⟩, .bool act, .bool wait]) := Lib.hid ((HM.out.below hb7).alloc _)
        have HTB8 : Hid (Blk (w7.alloc (.cells #[.string ⟨mn.toArray⟩, .int .i64 mk, .string ⟨mt.toArray⟩, .int .i64 mi, .bool mb] 50)) w5.heap.size 9 [.string ⟨#[]⟩, .string ⟨nCode.toArray⟩, .string ⟨nAcc.toArray⟩, .string ⟨nRef.toArray⟩]) := Lib.hid ((HTB.out.below hb7 HTB.out.lt).alloc _)
        have HR8 : Hid (RdM (w7.alloc (.cells #[.string ⟨mn.toArray⟩, .int .i64 mk, .string ⟨mt.toArray⟩, .int .i64 mi, .bool mb] 50)) (.slice va ln vc) l) := Lib.hid ((HR.out.below hb7).below ((Below.refl _ _).alloc (Nat.le_refl _) _))
        clear hb7 HGE t
        cases hi : isK path ⟨asco, acc, ref, act, acli, ause⟩ 3 with
        | true =>
          have hg := HG.out 3 (by omega) (by omega) hi
          have hmt : mt = tok sec 3 fam ref := (congrArg Mb.tx HMM.out).trans hg.1
          have HRI : Hid (Se.Right ⟨3, fam, ref⟩) := Lib.hid hg.2
          have HLM : Hid (mt.length ≤ 1000) := Lib.hid (by rw [hmt]; exact tok_len _ _ _ _)
          have HOP : Hid (Se.opV sec mt = .tuple #[.agg #[.int .i64 3, .string ⟨fam.toArray⟩, .int .i64 ref], .int .i64 0]) := Lib.hid (by unfold Se.opV; rw [hmt]; unfold tok; rw [Se.opn_mk sec _ HRI.out]; rfl)
          have hb2 : (path == [47, 116, 111, 107, 101, 110]) = true ∧ (ref != 0) = true := by simpa [isK, pTok] using hi
          have hb := hb2.1
          have hrf := hb2.2
          have hrf2 : (ref == 0) = false := by simpa [bne] using hrf
          clear hb2
          have HOPN := Lib.hid (Se.open_any (.slice sa sn sc) sec mt _ (by rw [← HSN.out]; exact HSV.out.below HM8.out.b) (by rw [← HSN.out]; exact HLEN.out.2) (by have := HLM.out; omega) (Lib.hid ((hL.out.on HM8.out.b).mono HM8.out.b.size)))
          rw [HOP.out] at HOPN
          clear hi hg hmt
          go_wp2_with fail
          refine HOPN.out.mono ?_
          rintro e w8 ⟨rfl, hb8⟩
          have HM9 : Hid (BM w (w8.alloc (.cells #[.int .i64 3, .string ⟨fam.toArray⟩, .int .i64 ref] 54)) [.int .i64 kd, .string ⟨fam.toArray⟩, .int .i64 ser, .int .i64 tk, .string ⟨cli.toArray⟩, .string ⟨usr.toArray⟩, .slice ca cn cc, .string ⟨red.toArray⟩, .string ⟨cha.toArray⟩, .string ⟨met.toArray⟩, .string ⟨ver.toArray⟩, .bool rf, .int .i64 edg] [.int .i64 0, .int .i64 acc, .int .i64 ref, .slice aa an ac, .string ⟨acli.toArray⟩, .string ⟨ause.toArray⟩, .bool act, .bool wait]) := Lib.hid ((HM8.out.below hb8).alloc _)
          have HTB9 : Hid (Blk (w8.alloc (.cells #[.int .i64 3, .string ⟨fam.toArray⟩, .int .i64 ref] 54)) w5.heap.size 9 [.string ⟨#[]⟩, .string ⟨nCode.toArray⟩, .string ⟨nAcc.toArray⟩, .string ⟨nRef.toArray⟩]) := Lib.hid ((HTB8.out.below hb8 HTB8.out.lt).alloc _)
          have HR9 : Hid (RdM (w8.alloc (.cells #[.int .i64 3, .string ⟨fam.toArray⟩, .int .i64 ref] 54)) (.slice va ln vc) l) := Lib.hid ((HR8.out.below hb8).below ((Below.refl _ _).alloc (Nat.le_refl _) _))
          clear hb8 HOPN
          have c1 := HM9.out.c.cell 1 rfl
          have a1 := HM9.out.a.cell 1 rfl
          have a2 := HM9.out.a.cell 2 rfl
          go_wp2_with fail
          go_roundw
          case rel => exact ⟨4, by omega, by omega, rfl, by go_num, HM9.out, HTB9.out, HR9.out⟩
          case measure => simp [intOf]
        | false =>
          have hmt : mt = [] := (congrArg Mb.tx HMM.out).trans (by rw [getM_none l nRef (by rw [HH.out, hi])]; rfl)
          subst hmt
          have HLM : Hid (([] : By).length ≤ 1000) := Lib.hid (by simp)
          have HOP : Hid (Se.opV sec [] = .tuple #[.agg #[.int .i64 0, .string ⟨#[]⟩, .int .i64 0], .int .i64 3]) := Lib.hid (Se.opV_no rfl)
          cases hb : (path == [47, 116, 111, 107, 101, 110]) with
          | false =>
            have HOPN := Lib.hid (Se.open_any (.slice sa sn sc) sec [] _ (by rw [← HSN.out]; exact HSV.out.below HM8.out.b) (by rw [← HSN.out]; exact HLEN.out.2) (by have := HLM.out; omega) (Lib.hid ((hL.out.on HM8.out.b).mono HM8.out.b.size)))
            rw [HOP.out] at HOPN
            clear hi
            go_wp2_with fail
            refine HOPN.out.mono ?_
            rintro e w8 ⟨rfl, hb8⟩
            have HM9 : Hid (BM w (w8.alloc (.cells #[.int .i64 0, .string ⟨#[]⟩, .int .i64 0] 54)) [.int .i64 kd, .string ⟨fam.toArray⟩, .int .i64 ser, .int .i64 tk, .string ⟨cli.toArray⟩, .string ⟨usr.toArray⟩, .slice ca cn cc, .string ⟨red.toArray⟩, .string ⟨cha.toArray⟩, .string ⟨met.toArray⟩, .string ⟨ver.toArray⟩, .bool rf, .int .i64 edg] [.int .i64 0, .int .i64 acc, .int .i64 ref, .slice aa an ac, .string ⟨acli.toArray⟩, .string ⟨ause.toArray⟩, .bool act, .bool wait]) := Lib.hid ((HM8.out.below hb8).alloc _)
            have HTB9 : Hid (Blk (w8.alloc (.cells #[.int .i64 0, .string ⟨#[]⟩, .int .i64 0] 54)) w5.heap.size 9 [.string ⟨#[]⟩, .string ⟨nCode.toArray⟩, .string ⟨nAcc.toArray⟩, .string ⟨nRef.toArray⟩]) := Lib.hid ((HTB8.out.below hb8 HTB8.out.lt).alloc _)
            have HR9 : Hid (RdM (w8.alloc (.cells #[.int .i64 0, .string ⟨#[]⟩, .int .i64 0] 54)) (.slice va ln vc) l) := Lib.hid ((HR8.out.below hb8).below ((Below.refl _ _).alloc (Nat.le_refl _) _))
            clear hb8 HOPN
            have c1 := HM9.out.c.cell 1 rfl
            have a1 := HM9.out.a.cell 1 rfl
            have a2 := HM9.out.a.cell 2 rfl
            go_wp2_with fail
            go_roundw
            case rel => exact ⟨4, by omega, by omega, rfl, by go_num, HM9.out, HTB9.out, HR9.out⟩
            case measure => simp [intOf]
          | true =>
            have hr0 : ref = 0 := by simpa [isK, pTok, hb] using hi
            have hr1 : (ref == 0) = true := by rw [hr0]; rfl
            have hr2 : (ref != 0) = false := by rw [hr0]; rfl
            clear hr0
            have HOPN := Lib.hid (Se.open_any (.slice sa sn sc) sec [] _ (by rw [← HSN.out]; exact HSV.out.below HM8.out.b) (by rw [← HSN.out]; exact HLEN.out.2) (by have := HLM.out; omega) (Lib.hid ((hL.out.on HM8.out.b).mono HM8.out.b.size)))
            rw [HOP.out] at HOPN
            clear hi
            go_wp2_with fail
            refine HOPN.out.mono ?_
            rintro e w8 ⟨rfl, hb8⟩
            have HM9 : Hid (BM w (w8.alloc (.cells #[.int .i64 0, .string ⟨#[]⟩, .int .i64 0] 54)) [.int .i64 kd, .string ⟨fam.toArray⟩, .int .i64 ser, .int .i64 tk, .string ⟨cli.toArray⟩, .string ⟨usr.toArray⟩, .slice ca cn cc, .string ⟨red.toArray⟩, .string ⟨cha.toArray⟩, .string ⟨met.toArray⟩, .string ⟨ver.toArray⟩, .bool rf, .int .i64 edg] [.int .i64 0, .int .i64 acc, .int .i64 ref, .slice aa an ac, .string ⟨acli.toArray⟩, .string ⟨ause.toArray⟩, .bool act, .bool wait]) := Lib.hid ((HM8.out.below hb8).alloc _)
            have HTB9 : Hid (Blk (w8.alloc (.cells #[.int .i64 0, .string ⟨#[]⟩, .int .i64 0] 54)) w5.heap.size 9 [.string ⟨#[]⟩, .string ⟨nCode.toArray⟩, .string ⟨nAcc.toArray⟩, .string ⟨nRef.toArray⟩]) := Lib.hid ((HTB8.out.below hb8 HTB8.out.lt).alloc _)
            have HR9 : Hid (RdM (w8.alloc (.cells #[.int .i64 0, .string ⟨#[]⟩, .int .i64 0] 54)) (.slice va ln vc) l) := Lib.hid ((HR8.out.below hb8).below ((Below.refl _ _).alloc (Nat.le_refl _) _))
            clear hb8 HOPN
            have c1 := HM9.out.c.cell 1 rfl
            have a1 := HM9.out.a.cell 1 rfl
            have a2 := HM9.out.a.cell 2 rfl
            go_wp2_with fail
            go_roundw
            case rel => exact ⟨4, by omega, by omega, rfl, by go_num, HM9.out, HTB9.out, HR9.out⟩
            case measure => simp [intOf]
      · subst hk
        clear hk1 hk4
        obtain ⟨⟨mn, mk, mt, mi, mb⟩, hm⟩ : ∃ m, m = getM l nAct := ⟨_, rfl⟩
        have HGE := Lib.hid (get_any _ l nAct wr HR.out (by have := HLL.out; have := HLN.out; omega))
        rw [← hm] at HGE
        have HMM := Lib.hid hm
        clear hm
        have HB3 : Hid (hasN l nAct = (path == [47, 105, 110, 116, 114, 111, 115, 112, 101, 99, 116])) := Lib.hid HAC.out.1
        rw [HB3.out] at HGE
        unfold mv nAct at HGE
        simp only at HGE
        cases hb : (path == [47, 105, 110, 116, 114, 111, 115, 112, 101, 99, 116]) with
        | false =>
          rw [hb] at HGE
          go_wp2_with fail
          refine HGE.out.mono ?_
          rintro e w7 ⟨rfl, hb7⟩
          have HM8 : Hid (BM w (w7.alloc (.cells #[.string ⟨mn.toArray⟩, .int .i64 mk, .string ⟨mt.toArray⟩, .int .i64 mi, .bool mb] 50)) [.int .i64 kd, .string ⟨fam.toArray⟩, .int .i64 ser, .int .i64 tk, .string ⟨cli.toArray⟩, .string ⟨usr.toArray⟩, .slice ca cn cc, .string ⟨red.toArray⟩, .string ⟨cha.toArray⟩, .string ⟨met.toArray⟩, .string ⟨ver.toArray⟩, .bool rf, .int .i64 edg] [.int .i64 0, .int .i64 acc, .int .i64 ref, .slice aa an ac, .string ⟨acli.toArray⟩, .string ⟨ause.toArray⟩, .bool act, .bool wait]) := Lib.hid ((HM.out.below hb7).alloc _)
          clear hb7 HGE
          have a6 := HM8.out.a.cell 6 rfl
          go_wp2_with fail
          go_ret
          exact ⟨rfl, HM8.out.b⟩
        | true =>
          rw [hb] at HGE
          have hpa : path = pInt := by simpa [pInt] using hb
          have hmb : mb = act := (congrArg Mb.b HMM.out).trans (HAC.out.2 hpa).1
          have HL1 : Hid (act = false → ln = 1) := Lib.hid (fun h => by rw [HLN.out]; exact (HAC.out.2 hpa).2 h)
          clear hpa HAC HMM HG HK HT HFN HB3 HLL HLN
          subst hmb
          go_wp2_with fail
          refine HGE.out.mono ?_
          rintro e w7 ⟨rfl, hb7⟩
          have HM8 : Hid (BM w (w7.alloc (.cells #[.string ⟨mn.toArray⟩, .int .i64 mk, .string ⟨mt.toArray⟩, .int .i64 mi, .bool mb] 50)) [.int .i64 kd, .string ⟨fam.toArray⟩, .int .i64 ser, .int .i64 tk, .string ⟨cli.toArray⟩, .string ⟨usr.toArray⟩, .slice ca cn cc, .string ⟨red.toArray⟩, .string ⟨cha.toArray⟩, .string ⟨met.toArray⟩, .string ⟨ver.toArray⟩, .bool rf, .int .i64 edg] [.int .i64 0, .int .i64 acc, .int .i64 ref, .slice aa an ac, .string ⟨acli.toArray⟩, .string ⟨ause.toArray⟩, .bool mb, .bool wait]) := Lib.hid ((HM.out.below hb7).alloc _)
          clear hb7 HGE
          have a6 := HM8.out.a.cell 6 rfl
          cases mb with
          | true =>
            go_wp2_with fail
            go_ret
            exact ⟨rfl, HM8.out.b⟩
          | false =>
            obtain rfl := HL1.out rfl
            go_wp2_with fail
            go_ret
            exact ⟨rfl, HM8.out.b⟩
end Go.Proofs.YtffllacphfapnaaGreatDoor.Bk
namespace Go.Proofs.YtffllacphfapnaaGreatDoor.Bk
open Go.Joins Go.ChangeShapes Go.WideShapes Go.ChangeAt Go.RowKit Go.ChangeMaps Js
set_option linter.unusedVariables false
set_option linter.unusedSimpArgs false

theorem star_is : "*" ++ "errors.errorString" = "*errors.errorString" := by decide
theorem err_row (u : TypeId) (h : Tryz.prog.typeName? 3 u = some "*errors.errorString") : u = 208 :=
  typeName_ptr_named (nm := "errors.errorString") (by rw [star_is]; kernel_rfl) (by kernel_rfl) (by decide) u (by rw [star_is]; exact h)
theorem laid_here {W : World} (h : laidMetH Tryz.prog Rows.replyBackRow.laid W) (hsh : W.ShapedOpen Tryz.prog) : Se.LaidS W.heap.size W := by
  rw [MakeChecks.laidMetH_plain _ _ _ (by kernel_rfl)] at h
  have h3 := laidMet.tail (laidMet.tail h)
  have h4 := laidMet.tail h3
  have h5 := laidMet.tail h4
  have h1 : Lib.TabIs Tryz.prog W "internal/strconv.uint64pow10" .u64 Lib.pow10Tab := Lib.tabIs_of_head (t := 191) (e := 132) (n := 20) (g := 3) (by kernel_rfl) (by kernel_rfl) (by kernel_rfl) (by kernel_rfl) (by kernel_rfl) (by kernel_rfl) h3
  obtain ⟨a, s, hr, _⟩ := laid_sentinel (g := 2) (ti := 100) (tp := 208) (te := 210) (ts := 9) h4 (by kernel_rfl) (by kernel_rfl) Tryz.underlying100 err_row (by kernel_rfl) Tryz.underlying210 rfl rfl (by kernel_rfl) (by kernel_rfl) (by kernel_rfl)
  obtain ⟨a2, s2, hs, _⟩ := laid_sentinel (g := 1) (ti := 100) (tp := 208) (te := 210) (ts := 9) h5 (by kernel_rfl) (by kernel_rfl) Tryz.underlying100 err_row (by kernel_rfl) Tryz.underlying210 rfl rfl (by kernel_rfl) (by kernel_rfl) (by kernel_rfl)
  obtain ⟨m, hm⟩ : ∃ m, W.cell? ⟨0, 0, none⟩ = some (.int .i64 m) := Go.Proofs.cell_of_shapedOpen_int (zero := #[.int .i64 0]) (t := 3) hsh (of_decide_eq_true (by kernel_rfl)) (by kernel_rfl) rfl (by kernel_rfl) (by kernel_rfl) Tryz.underlying3
  have hg : 0 < W.heap.size := World.block_lt_of_cell? W _ hm
  exact ⟨Se.LaidB.start h1 ⟨_, _, hs⟩ ⟨_, _, hr⟩, m, fun W' hb => (hb.cell (p := ⟨0, 0, none⟩) hg).trans hm⟩


/-- v reads as the bytes l, its datum is d -/
structure BytesAt {H : Type} (W : World) (v : Value) (l : By) (d : DataW H) : Prop where
  rd : Rd W 1 v l.length (Lib.byteCells l)
  dat : (d = .nil ∧ l = []) ∨ ∃ es spare, d = .slice es spare ∧ es.length = l.length
theorem u8_wf {n : Int} (h : (Lit.int .u8 n).wf = true) : 0 ≤ n ∧ n ≤ 255 := by
  simp only [Lit.wf, Bool.and_eq_true, decide_eq_true_eq] at h
  rw [show IntKind.u8.min = 0 from rfl, show IntKind.u8.max = 255 from rfl] at h
  exact h
theorem bytes_of (zs : List Int) (h : ∀ n ∈ zs, 0 ≤ n ∧ n ≤ 255) : Lib.byteCells (zs.map fun z => UInt8.ofNat z.toNat) = zs.map (Value.int .u8) := by
  unfold Lib.byteCells
  rw [List.map_map]
  refine List.map_congr_left fun z hz => ?_
  obtain ⟨h0, h1⟩ := h z hz
  show Value.int .u8 ((UInt8.ofNat z.toNat).toNat : Int) = _
  have : (UInt8.ofNat z.toNat).toNat = z.toNat := by simp; omega
  rw [this]; congr 1; omega
set_option maxRecDepth 20000 in
theorem open_bytes {H : Type} {enc : TypeId × Value → H} {W : World} {v : Value} {d : DataW H} {ps : List MemPlace} {r : Reach} {b0 : Nat} (hval : Value.okWide Tryz.prog W r b0 36 v) (h : DataW.Trod enc Tryz.prog W 0 (fun _ => true) true 36 v d ps) :
    ∃ l : By, BytesAt W v l d := by
  obtain ⟨a1, l1, c1, rfl⟩ := okWide_slice Tryz.underlying36 hval
  obtain ⟨fuel, hf⟩ := h
  rcases open_ints Tryz.underlying36 Tryz.underlying5 (by kernel_rfl) hf with ⟨hcs, hx⟩ | ⟨a, len, cap, zs, hcs, _, hlc, hcm, hzl, hx, hc, hwf⟩
  · simp [Value.cells] at hcs
    simp only [Prod.mk.injEq] at hx
    obtain ⟨rfl, rfl, rfl⟩ := hcs
    exact ⟨[], Rd.nil _ _, .inl ⟨hx.1, rfl⟩⟩
  · simp [Value.cells] at hcs
    simp only [Prod.mk.injEq] at hx
    obtain ⟨rfl, rfl, rfl⟩ := hcs
    have hzl' : zs.length = c1 := by simpa using hzl
    have hlen : (zs.take l1).length = l1 := by rw [List.length_take]; omega
    by_cases hl0 : l1 = 0
    · subst hl0
      exact ⟨[], ⟨by simp [Lib.byteCells], .inl ⟨⟨_, _, rfl⟩, rfl⟩⟩, .inr ⟨_, _, hx.1, by simp [lits]⟩⟩
    obtain ⟨b, off, spot⟩ := a
    obtain rfl : spot = none := by simpa [Addr.add] using World.cell?_spot (hc 0 (by omega))
    have hby := bytes_of (zs.take l1) (fun n hn => u8_wf (hwf n (List.mem_of_mem_take hn)))
    refine ⟨(zs.take l1).map fun z => UInt8.ofNat z.toNat, ⟨by rw [Lib.byteCells_length, Nat.mul_one], .inr ⟨b, off, c1, by rw [List.length_map, hlen], by rw [List.length_map, hlen]; omega, fun j u hj => ?_⟩⟩, .inr ⟨_, _, hx.1, by simp [lits]⟩⟩
    rw [hby] at hj
    have hjl : j < l1 := by
      have := (List.getElem?_eq_some_iff.1 hj).1
      rw [List.length_map, hlen] at this
      exact this
    have := hc j (by omega)
    rw [Addr.add_lit] at this
    rw [this]
    rw [List.getElem?_map, List.getElem?_take_of_lt hjl] at hj
    rw [← hj]
    simp [List.getD, show j < zs.length by omega]
set_option maxRecDepth 20000 in
theorem BytesAt.short {H : Type} {W : World} {v : Value} {l : By} {d : DataW H} (h : BytesAt W v l d) {ts : List TypeId} {ds : List (DataW H)} (hz : (DataW.weightsEach Tryz.prog ts ds).all (· ≤ reachBytes) = true) {j : Nat} (ht : ts[j]? = some 36) (hd : ds[j]? = some d) : l.length ≤ 140737488351232 := by
  rcases h.dat with ⟨_, rfl⟩ | ⟨es, spare, rfl, hl⟩
  · simp
  · have hs := sized_slice hz ht hd Tryz.underlying36
    rw [show Tryz.prog.bytesOf 5 = 1 from by kernel_rfl, show reachBytes = 140737488351232 from rfl] at hs
    omega
set_option maxRecDepth 20000 in
theorem BytesAt.sh {H : Type} {W : World} {v : Value} {l : By} {d : DataW H} (h : BytesAt W v l d) {ts : List TypeId} {ds : List (DataW H)} (hz : (DataW.weightsEach Tryz.prog ts ds).all (· ≤ reachBytes) = true) {j : Nat} (ht : ts[j]? = some 36) (hd : ds[j]? = some d) : l.length ≤ 288230376151711744 := by
  have := h.short hz ht hd; omega

section
variable {H : Type} {enc : TypeId × Value → H} {P : Program} {w : World} {held : Bool}
theorem cell_spot {a : Addr} {v : Value} (h : w.cell? a = some v) : a.spot = none := World.cell?_spot h
/-- a slice of one-cell elements, opened -/
theorem open_flat {α : Type} [Inhabited α] {t e : TypeId} (ht : P.underlying t = some (.slice e)) (hC : P.cellsOf e = 1) (f : α → Value) (G : α → Prop)
    (hel : ∀ n c y, DataW.trod enc P w 0 (fun _ => true) held n e [c] = some y → ∃ x, c = f x ∧ G x) {fuel : Nat} {v : Value} {x : DataW H × List MemPlace} (h : DataW.trod enc P w 0 (fun _ => true) held fuel t [v] = some x) :
    ∃ l : List α, Rd w 1 v l.length (l.map f) ∧ (∀ y ∈ l, G y) ∧ (0 < l.length → ∀ g, v.ownBlock = some g → g < w.heap.size) ∧ ((x.1 = .nil ∧ l = []) ∨ ∃ es sp, x.1 = .slice es sp ∧ es.length = l.length) := by
  rcases DataW.trod_slice ht h with ⟨hcs, hx⟩ | ⟨a, len, cap, elems, rest, n, _, hcs, hx, _, hlc, hcm, hlen, hel2, _, _⟩
  · simp only [List.cons.injEq, and_true] at hcs
    subst hcs
    refine ⟨[], Rd.nil _ _, (fun y hy => (by cases hy)), (fun h0 => absurd h0 (Nat.lt_irrefl _)), .inl ⟨by rw [hx], rfl⟩⟩
  · simp only [List.cons.injEq, and_true] at hcs
    subst hcs
    have hat : ∀ i, i < len → ∃ y : α, w.cell? (a.add i) = some (f y) ∧ G y := fun i hi => by
      have h1 := hel2 i hi
      rw [hC, Nat.mul_one] at h1
      have h2 : elems[i]? = some elems[i] := List.getElem?_eq_getElem (by omega)
      rw [h2] at h1
      obtain ⟨cs, hc1, hc2⟩ := Option.bind_eq_some_iff.1 h1
      obtain ⟨_, hl, hcc⟩ := World.cells?_some hc1
      obtain ⟨c, rfl⟩ : ∃ c, cs = [c] := List.length_eq_one_iff.1 hl
      obtain ⟨y, rfl, hG⟩ := hel n c _ hc2
      exact ⟨y, by have := hcc 0 (by omega); rw [show (a.add i).add 0 = a.add i from by simp [Addr.add]] at this; simpa using this, hG⟩
    obtain ⟨Y, hY⟩ := Deep.choose_lt hat
    have hxe : ∃ es sp, x.1 = .slice es sp ∧ es.length = ((List.range len).map Y).length := ⟨_, _, by rw [hx], by simp [hlen]⟩
    rcases Nat.eq_zero_or_pos len with h0 | h0
    · subst h0
      exact ⟨[], ⟨rfl, .inl ⟨⟨_, _, rfl⟩, rfl⟩⟩, (fun y hy => (by cases hy)), (fun h0 => absurd h0 (Nat.lt_irrefl _)), .inr (by simpa using hxe)⟩
    · obtain ⟨b, off, spot⟩ := a
      obtain rfl : spot = none := by simpa [Addr.add] using World.cell?_spot (hY 0 h0).1
      have hc0 := (hY 0 h0).1
      simp only [Addr.add_lit] at hc0
      refine ⟨(List.range len).map Y, ⟨by simp, .inr ⟨b, off, cap, by simp, by simpa using hlc, fun j u hj => ?_⟩⟩, fun y hy => ?_, fun _ g hg => ?_, .inr hxe⟩
      · rw [List.getElem?_map, List.getElem?_map] at hj
        have hj' : j < len := by
          rcases Nat.lt_or_ge j len with h' | h'
          · exact h'
          · rw [List.getElem?_eq_none (by simpa using h')] at hj; cases hj
        rw [List.getElem?_eq_getElem (by simpa using hj')] at hj
        simp only [Option.map_some, List.getElem_range, Option.some.injEq] at hj
        have := (hY j hj').1
        simp only [Addr.add_lit] at this
        rw [this, hj]
      · obtain ⟨i, hi, rfl⟩ := List.mem_map.1 hy
        exact (hY i (List.mem_range.1 hi)).2
      · cases hg
        rcases Nat.lt_or_ge b w.heap.size with h' | h'
        · exact h'
        · simp [World.cell?, Array.getElem?_eq_none h'] at hc0
end

theorem mk_size (l : List UInt8) : (⟨l.toArray⟩ : ByteArray).size = l.length := by simp [ByteArray.size]
theorem str_mk (s : ByteArray) : s = ⟨s.data.toList.toArray⟩ := st_mk s
/-- a slice of texts, read at any depth -/
theorem open_texts {H : Type} {enc : TypeId × Value → H} {w : World} {held : Bool} {n : Nat} {c : Value} {y : DataW H × List MemPlace} (h : DataW.trod enc Tryz.prog w 0 (fun _ => true) held n 37 [c] = some y) :
    ∃ l : List (List UInt8), RdS w c l ∧ ((y.1 = .nil ∧ l = []) ∨ ∃ es sp, y.1 = .slice es sp ∧ es.length = l.length) := by
  obtain ⟨l, r, hG, _, hd⟩ := open_flat Tryz.underlying37 (by kernel_rfl) (fun x : List UInt8 => sv x) (fun x => x.length ≤ 9223372036854775807) (fun n c y hy => by
    obtain ⟨s, e, _, hs⟩ := DataW.trod_string Tryz.underlying9 hy
    simp only [List.cons.injEq, and_true] at e
    subst e
    refine ⟨s.data.toList, by unfold sv; rw [← st_mk], ?_⟩
    unfold maxLen at hs
    simpa using hs) h
  exact ⟨l, ⟨r, hG⟩, hd⟩

theorem array13 {α : Type} {cs : Array α} (h : cs.size = 13) : ∃ c0 c1 c2 c3 c4 c5 c6 c7 c8 c9 c10 c11 c12, cs = #[c0, c1, c2, c3, c4, c5, c6, c7, c8, c9, c10, c11, c12] := by
  obtain ⟨l⟩ := cs
  match l, h with
  | [c0, c1, c2, c3, c4, c5, c6, c7, c8, c9, c10, c11, c12], _ => exact ⟨c0, c1, c2, c3, c4, c5, c6, c7, c8, c9, c10, c11, c12, rfl⟩
set_option maxRecDepth 100000 in
set_option maxHeartbeats 1000000 in
theorem open_cmd {H : Type} {enc : TypeId × Value → H} {W : World} {v : Value} {d : DataW H} {ps : List MemPlace} {r : Reach} {b0 : Nat} (hval : Value.okWide Tryz.prog W r b0 39 v) (h : DataW.Trod enc Tryz.prog W 0 (fun _ => true) true 39 v d ps) :
    ∃ a : Gr.Cm × Value, v = Gr.cmV a.1 a.2 ∧ RdS W a.2 a.1.sco ∧ ((∀ m ∈ d.weights Tryz.prog 39, m ≤ reachBytes) → a.1.sco.length ≤ 100 → Gr.CmOk a.1) := by
  obtain ⟨cs, rfl, hsz⟩ := okWide_struct Tryz.underlying39 hval
  obtain ⟨c0, c1, c2, c3, c4, c5, c6, c7, c8, c9, c10, c11, c12, rfl⟩ := array13 (hsz.trans (by kernel_rfl))
  obtain ⟨fuel, hf⟩ := h
  obtain ⟨xs, n, _, hx, _, hlen, hff⟩ := DataW.trod_struct Tryz.underlying39 hf
  obtain ⟨y0, y1, y2, y3, y4, y5, y6, y7, y8, y9, y10, y11, y12, rfl⟩ : ∃ y0 y1 y2 y3 y4 y5 y6 y7 y8 y9 y10 y11 y12, xs = [y0, y1, y2, y3, y4, y5, y6, y7, y8, y9, y10, y11, y12] := by
    match xs, hlen with
    | [y0, y1, y2, y3, y4, y5, y6, y7, y8, y9, y10, y11, y12], _ => exact ⟨y0, y1, y2, y3, y4, y5, y6, y7, y8, y9, y10, y11, y12, rfl⟩
  have g0 : DataW.trod enc Tryz.prog W 0 (fun _ => true) true n 3 [c0] = some y0 := by have h := hff 0 _ rfl; exact h
  have g1 : DataW.trod enc Tryz.prog W 0 (fun _ => true) true n 9 [c1] = some y1 := by have h := hff 1 _ rfl; exact h
  have g2 : DataW.trod enc Tryz.prog W 0 (fun _ => true) true n 3 [c2] = some y2 := by have h := hff 2 _ rfl; exact h
  have g3 : DataW.trod enc Tryz.prog W 0 (fun _ => true) true n 3 [c3] = some y3 := by have h := hff 3 _ rfl; exact h
  have g4 : DataW.trod enc Tryz.prog W 0 (fun _ => true) true n 9 [c4] = some y4 := by have h := hff 4 _ rfl; exact h
  have g5 : DataW.trod enc Tryz.prog W 0 (fun _ => true) true n 9 [c5] = some y5 := by have h := hff 5 _ rfl; exact h
  have g6 : DataW.trod enc Tryz.prog W 0 (fun _ => true) true n 37 [c6] = some y6 := by have h := hff 6 _ rfl; exact h
  have g7 : DataW.trod enc Tryz.prog W 0 (fun _ => true) true n 9 [c7] = some y7 := by have h := hff 7 _ rfl; exact h
  have g8 : DataW.trod enc Tryz.prog W 0 (fun _ => true) true n 9 [c8] = some y8 := by have h := hff 8 _ rfl; exact h
  have g9 : DataW.trod enc Tryz.prog W 0 (fun _ => true) true n 9 [c9] = some y9 := by have h := hff 9 _ rfl; exact h
  have g10 : DataW.trod enc Tryz.prog W 0 (fun _ => true) true n 9 [c10] = some y10 := by have h := hff 10 _ rfl; exact h
  have g11 : DataW.trod enc Tryz.prog W 0 (fun _ => true) true n 4 [c11] = some y11 := by have h := hff 11 _ rfl; exact h
  have g12 : DataW.trod enc Tryz.prog W 0 (fun _ => true) true n 3 [c12] = some y12 := by have h := hff 12 _ rfl; exact h
  obtain ⟨n0, e0, _⟩ := DataW.trod_int Tryz.underlying3 g0
  obtain ⟨s1, e1, x1, _⟩ := DataW.trod_string Tryz.underlying9 g1
  obtain ⟨n2, e2, _⟩ := DataW.trod_int Tryz.underlying3 g2
  obtain ⟨n3, e3, _⟩ := DataW.trod_int Tryz.underlying3 g3
  obtain ⟨s4, e4, x4, _⟩ := DataW.trod_string Tryz.underlying9 g4
  obtain ⟨s5, e5, x5, _⟩ := DataW.trod_string Tryz.underlying9 g5
  obtain ⟨l6, r6, _⟩ := open_texts g6
  obtain ⟨s7, e7, x7, _⟩ := DataW.trod_string Tryz.underlying9 g7
  obtain ⟨s8, e8, x8, _⟩ := DataW.trod_string Tryz.underlying9 g8
  obtain ⟨s9, e9, x9, _⟩ := DataW.trod_string Tryz.underlying9 g9
  obtain ⟨s10, e10, x10, _⟩ := DataW.trod_string Tryz.underlying9 g10
  obtain ⟨n11, e11, _⟩ := DataW.trod_bool Tryz.underlying4 g11
  obtain ⟨n12, e12, _⟩ := DataW.trod_int Tryz.underlying3 g12
  simp only [List.cons.injEq, and_true] at e0 e1 e2 e3 e4 e5 e7 e8 e9 e10 e11 e12
  subst e0 e1 e2 e3 e4 e5 e7 e8 e9 e10 e11 e12
  have hu := Tryz.underlying39
  simp only [Prod.mk.injEq] at hx
  obtain ⟨rfl, _⟩ := hx
  have b1 : (∀ m ∈ DataW.weights Tryz.prog 39 (.agg ([y0, y1, y2, y3, y4, y5, y6, y7, y8, y9, y10, y11, y12].map Prod.fst)), m ≤ reachBytes) → s1.data.toList.length ≤ reachBytes := fun hw => hw _ (by
    simp only [DataW.weights, hu]
    refine DataW.weights_mem_each (j := 1) (t := 9) (d := y1.1) rfl rfl _ ?_
    rw [x1]
    simp [DataW.weights])
  have b4 : (∀ m ∈ DataW.weights Tryz.prog 39 (.agg ([y0, y1, y2, y3, y4, y5, y6, y7, y8, y9, y10, y11, y12].map Prod.fst)), m ≤ reachBytes) → s4.data.toList.length ≤ reachBytes := fun hw => hw _ (by
    simp only [DataW.weights, hu]
    refine DataW.weights_mem_each (j := 4) (t := 9) (d := y4.1) rfl rfl _ ?_
    rw [x4]
    simp [DataW.weights])
  have b5 : (∀ m ∈ DataW.weights Tryz.prog 39 (.agg ([y0, y1, y2, y3, y4, y5, y6, y7, y8, y9, y10, y11, y12].map Prod.fst)), m ≤ reachBytes) → s5.data.toList.length ≤ reachBytes := fun hw => hw _ (by
    simp only [DataW.weights, hu]
    refine DataW.weights_mem_each (j := 5) (t := 9) (d := y5.1) rfl rfl _ ?_
    rw [x5]
    simp [DataW.weights])
  have b7 : (∀ m ∈ DataW.weights Tryz.prog 39 (.agg ([y0, y1, y2, y3, y4, y5, y6, y7, y8, y9, y10, y11, y12].map Prod.fst)), m ≤ reachBytes) → s7.data.toList.length ≤ reachBytes := fun hw => hw _ (by
    simp only [DataW.weights, hu]
    refine DataW.weights_mem_each (j := 7) (t := 9) (d := y7.1) rfl rfl _ ?_
    rw [x7]
    simp [DataW.weights])
  have b8 : (∀ m ∈ DataW.weights Tryz.prog 39 (.agg ([y0, y1, y2, y3, y4, y5, y6, y7, y8, y9, y10, y11, y12].map Prod.fst)), m ≤ reachBytes) → s8.data.toList.length ≤ reachBytes := fun hw => hw _ (by
    simp only [DataW.weights, hu]
    refine DataW.weights_mem_each (j := 8) (t := 9) (d := y8.1) rfl rfl _ ?_
    rw [x8]
    simp [DataW.weights])
  have b9 : (∀ m ∈ DataW.weights Tryz.prog 39 (.agg ([y0, y1, y2, y3, y4, y5, y6, y7, y8, y9, y10, y11, y12].map Prod.fst)), m ≤ reachBytes) → s9.data.toList.length ≤ reachBytes := fun hw => hw _ (by
    simp only [DataW.weights, hu]
    refine DataW.weights_mem_each (j := 9) (t := 9) (d := y9.1) rfl rfl _ ?_
    rw [x9]
    simp [DataW.weights])
  have b10 : (∀ m ∈ DataW.weights Tryz.prog 39 (.agg ([y0, y1, y2, y3, y4, y5, y6, y7, y8, y9, y10, y11, y12].map Prod.fst)), m ≤ reachBytes) → s10.data.toList.length ≤ reachBytes := fun hw => hw _ (by
    simp only [DataW.weights, hu]
    refine DataW.weights_mem_each (j := 10) (t := 9) (d := y10.1) rfl rfl _ ?_
    rw [x10]
    simp [DataW.weights])
  refine ⟨(⟨n0, s1.data.toList, n2, n3, s4.data.toList, s5.data.toList, l6, s7.data.toList, s8.data.toList, s9.data.toList, s10.data.toList, n11, n12⟩, c6), ?_, r6, fun hw hs => ?_⟩
  · unfold Gr.cmV; simp only [← st_mk]
  · have hR : reachBytes = 140737488351232 := rfl
    exact ⟨by have := b1 hw; show s1.data.toList.length ≤ _; omega, by have := b4 hw; show s4.data.toList.length ≤ _; omega, by have := b5 hw; show s5.data.toList.length ≤ _; omega, by have := b7 hw; show s7.data.toList.length ≤ _; omega, by have := b8 hw; show s8.data.toList.length ≤ _; omega, by have := b9 hw; show s9.data.toList.length ≤ _; omega, by have := b10 hw; show s10.data.toList.length ≤ _; omega, by show l6.length ≤ _; have h6 : l6.length ≤ 100 := hs; omega⟩
theorem array8 {α : Type} {cs : Array α} (h : cs.size = 8) : ∃ c0 c1 c2 c3 c4 c5 c6 c7, cs = #[c0, c1, c2, c3, c4, c5, c6, c7] := by
  obtain ⟨l⟩ := cs
  match l, h with
  | [c0, c1, c2, c3, c4, c5, c6, c7], _ => exact ⟨c0, c1, c2, c3, c4, c5, c6, c7, rfl⟩
set_option maxRecDepth 100000 in
set_option maxHeartbeats 1000000 in
theorem open_ans {H : Type} {enc : TypeId × Value → H} {W : World} {v : Value} {d : DataW H} {ps : List MemPlace} {r : Reach} {b0 : Nat} (hval : Value.okWide Tryz.prog W r b0 41 v) (h : DataW.Trod enc Tryz.prog W 0 (fun _ => true) true 41 v d ps) :
    ∃ a : An × Int × List By × Value × Bool, v = anV a.1 a.2.1 a.2.2.2.1 a.2.2.2.2 ∧ RdS W a.2.2.2.1 a.2.2.1 ∧ a.1.sco = Sc.join (Sc.set a.2.2.1) ∧ ((∀ m ∈ d.weights Tryz.prog 41, m ≤ reachBytes) → a.1.cli.length ≤ 140737488355000 ∧ a.1.use.length ≤ 140737488355000) := by
  obtain ⟨cs, rfl, hsz⟩ := okWide_struct Tryz.underlying41 hval
  obtain ⟨c0, c1, c2, c3, c4, c5, c6, c7, rfl⟩ := array8 (hsz.trans (by kernel_rfl))
  obtain ⟨fuel, hf⟩ := h
  obtain ⟨xs, n, _, hx, _, hlen, hff⟩ := DataW.trod_struct Tryz.underlying41 hf
  obtain ⟨y0, y1, y2, y3, y4, y5, y6, y7, rfl⟩ : ∃ y0 y1 y2 y3 y4 y5 y6 y7, xs = [y0, y1, y2, y3, y4, y5, y6, y7] := by
    match xs, hlen with
    | [y0, y1, y2, y3, y4, y5, y6, y7], _ => exact ⟨y0, y1, y2, y3, y4, y5, y6, y7, rfl⟩
  have g0 : DataW.trod enc Tryz.prog W 0 (fun _ => true) true n 25 [c0] = some y0 := by have h := hff 0 _ rfl; exact h
  have g1 : DataW.trod enc Tryz.prog W 0 (fun _ => true) true n 3 [c1] = some y1 := by have h := hff 1 _ rfl; exact h
  have g2 : DataW.trod enc Tryz.prog W 0 (fun _ => true) true n 3 [c2] = some y2 := by have h := hff 2 _ rfl; exact h
  have g3 : DataW.trod enc Tryz.prog W 0 (fun _ => true) true n 37 [c3] = some y3 := by have h := hff 3 _ rfl; exact h
  have g4 : DataW.trod enc Tryz.prog W 0 (fun _ => true) true n 9 [c4] = some y4 := by have h := hff 4 _ rfl; exact h
  have g5 : DataW.trod enc Tryz.prog W 0 (fun _ => true) true n 9 [c5] = some y5 := by have h := hff 5 _ rfl; exact h
  have g6 : DataW.trod enc Tryz.prog W 0 (fun _ => true) true n 4 [c6] = some y6 := by have h := hff 6 _ rfl; exact h
  have g7 : DataW.trod enc Tryz.prog W 0 (fun _ => true) true n 4 [c7] = some y7 := by have h := hff 7 _ rfl; exact h
  obtain ⟨n0, e0, _⟩ := DataW.trod_int Tryz.underlying25 g0
  obtain ⟨n1, e1, _⟩ := DataW.trod_int Tryz.underlying3 g1
  obtain ⟨n2, e2, _⟩ := DataW.trod_int Tryz.underlying3 g2
  obtain ⟨l3, r3, _⟩ := open_texts g3
  obtain ⟨s4, e4, x4, _⟩ := DataW.trod_string Tryz.underlying9 g4
  obtain ⟨s5, e5, x5, _⟩ := DataW.trod_string Tryz.underlying9 g5
  obtain ⟨n6, e6, _⟩ := DataW.trod_bool Tryz.underlying4 g6
  obtain ⟨n7, e7, _⟩ := DataW.trod_bool Tryz.underlying4 g7
  simp only [List.cons.injEq, and_true] at e0 e1 e2 e4 e5 e6 e7
  subst e0 e1 e2 e4 e5 e6 e7
  have hu := Tryz.underlying41
  simp only [Prod.mk.injEq] at hx
  obtain ⟨rfl, _⟩ := hx
  have b4 : (∀ m ∈ DataW.weights Tryz.prog 41 (.agg ([y0, y1, y2, y3, y4, y5, y6, y7].map Prod.fst)), m ≤ reachBytes) → s4.data.toList.length ≤ reachBytes := fun hw => hw _ (by
    simp only [DataW.weights, hu]
    refine DataW.weights_mem_each (j := 4) (t := 9) (d := y4.1) rfl rfl _ ?_
    rw [x4]
    simp [DataW.weights])
  have b5 : (∀ m ∈ DataW.weights Tryz.prog 41 (.agg ([y0, y1, y2, y3, y4, y5, y6, y7].map Prod.fst)), m ≤ reachBytes) → s5.data.toList.length ≤ reachBytes := fun hw => hw _ (by
    simp only [DataW.weights, hu]
    refine DataW.weights_mem_each (j := 5) (t := 9) (d := y5.1) rfl rfl _ ?_
    rw [x5]
    simp [DataW.weights])
  refine ⟨(⟨Sc.join (Sc.set l3), n1, n2, n6, s4.data.toList, s5.data.toList⟩, n0, l3, c3, n7), ?_, r3, rfl, fun hw => ?_⟩
  · unfold anV; simp only [← st_mk]
  · have hR : reachBytes = 140737488351232 := rfl
    exact ⟨by have := b4 hw; show s4.data.toList.length ≤ _; omega, by have := b5 hw; show s5.data.toList.length ≤ _; omega⟩
theorem weigh {H : Type} {ts : List TypeId} {ds : List (DataW H)} (hz : (DataW.weightsEach Tryz.prog ts ds).all (· ≤ reachBytes) = true) {j : Nat} {t : TypeId} {d : DataW H} (ht : ts[j]? = some t) (hd : ds[j]? = some d) : ∀ m ∈ d.weights Tryz.prog t, m ≤ reachBytes := fun m hm =>
  of_decide_eq_true (List.all_eq_true.1 hz m (DataW.weights_mem_each (j := j) (t := t) (d := d) ht hd m hm))
theorem replyBack_card (path : By) (sv : Value) (sec : By) (cv : Value) (c : Gr.Cm × Value) (av : Value) (a : An × Int × List By × Value × Bool) (w : World) (hpl : path.length ≤ 140737488355328) (hs : Rd w 1 sv sec.length (Lib.byteCells sec)) (hl : sec.length ≤ 288230376151711744)
    (hcv : cv = Gr.cmV c.1 c.2) (hcs : RdS w c.2 c.1.sco) (hc : c.1.sco.length ≤ 100 → Gr.CmOk c.1)
    (hav : av = anV a.1 a.2.1 a.2.2.2.1 a.2.2.2.2) (has : RdS w a.2.2.2.1 a.2.2.1) (hsco : a.1.sco = Sc.join (Sc.set a.2.2.1)) (hlen : a.1.cli.length ≤ 140737488355000 ∧ a.1.use.length ≤ 140737488355000) (hL : Hid (Se.LaidS w.heap.size w)) :
    Calls Tryz.prog 5 #[.string ⟨path.toArray⟩, sv, cv, av] w fun e w' => e = .returned (.bool true) ∧ Below w.heap.size w w' := by
  subst hcv
  subst hav
  exact replyBack_walk path sec sv c.1 c.2 a.1 a.2.1 a.2.2.1 a.2.2.2.1 a.2.2.2.2 w hpl hs hl hcs hc has hsco hlen.1 hlen.2 hL
end Go.Proofs.YtffllacphfapnaaGreatDoor.Bk
