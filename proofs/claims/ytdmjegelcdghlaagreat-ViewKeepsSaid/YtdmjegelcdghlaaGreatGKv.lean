/-
  Chapter 22: an event of the group: somebody is asked, or ticks.
-/
import Derived.Test.YtdmjegelcdghlaaGreatGGen
import Derived.Test.YtdmjegelcdghlaaGreatGKt
import Derived.Test.YtdmjegelcdghlaaGreatGKs
import Derived.Test.YtdmjegelcdghlaaGreatGKn
import Derived.Test.YtdmjegelcdghlaaGreatGKf
import Derived.Test.YtdmjegelcdghlaaGreatGDy
set_option maxRecDepth 100000
set_option maxHeartbeats 64000000
set_option linter.unusedVariables false
set_option linter.unusedSimpArgs false
namespace Go.Proofs.YtdmjegelcdghlaaGreat
theorem Z211 {p:Prop}(h:p:=by refine Or.inl ⟨Z31,?_⟩;intro W hSw;(try dsimp only at hSw);(have q0:=hSw.out.1;have q1:=hSw.out.2.1;clear hSw);go_simp;(try with_reducible rfl)):p:=h
theorem Z137 {p:Prop}(h:p:=by have:=HDS.out.di.N;have:=HDS.out.di.le;omega):p:=h
theorem Z113 {p:Prop}(h:p:=by have:=HH.out.2.2.2.2.1.N;have:=HH.out.2.2.2.2.1.le;omega):p:=h
theorem Z103 {p:Prop}(h:p:=by have:=D.n.2;omega):p:=h
theorem Z78 {p:Prop}(h:p:=by
 go_wp2_with fail
 refine HSE.out.mono ?_
 rintro e5 w5 ⟨rfl,hm5⟩
 have HM5:=Lib.hid hm5
 clear hm5
 go_wp2_with fail
 go_ret
 exact⟨rfl,HFIN.out _ _ _ _ HM5.out HDS.out.di HDS.out.gon⟩):p:=h
theorem Z34 {p:Prop}(h:p:=by
 have:=D.n.2
 have e9:IntKind.u64.wrap (g.n:Int)=(g.n:Int)% 18446744073709551616:=by simp[IntKind.wrap,IntKind.bits,IntKind.signed]
 rw[e9];omega):p:=h
theorem Z10 {p:Prop}(h:p:=by
 by_cases hlen:0<g.way.length
 case pos=>
  have t1:(0:Int)<(g.way.length:Int):=by omega
  obtain⟨k,hkn,hk⟩:=mod_lem ep g.way.length hlen (by omega)
  have hnz2: ¬(g.way.length:Int)=0:=by omega
  have hnu2:IntKind.u64.wrap (g.way.length:Int)=(g.way.length:Int):=by
   have e9:IntKind.u64.wrap (g.way.length:Int)=(g.way.length:Int)% 18446744073709551616:=by simp[IntKind.wrap,IntKind.bits,IntKind.signed]
   rw[e9];omega
  go_upto_region 4 with fail
  go_quiet (fail)
  simp only[hk]
  go_wp2_with fail
  go_meet
  case rel=>exact⟨(k:Int),rfl,fun h0=>by omega,fun _=>⟨k,hkn,rfl⟩,_,rfl⟩
 case neg=>
  have t1: ¬(0:Int)<(g.way.length:Int):=by omega
  go_wp2_with fail
  go_meet
  case rel=>exact⟨-1,rfl,fun _=>rfl,fun h0=>absurd h0 hlen,0,rfl⟩):p:=h
end Go.Proofs.YtdmjegelcdghlaaGreat
namespace Go.Proofs.YtdmjegelcdghlaaGreat.Vw
open Go.RowKit Go.Maps
def DG (e:Nat)(h:Gh Op)(g g':Gp Op):Prop:= ∃h' N',DI N' (e+1) h' g'∧Gon g.n h h' g g'
theorem mod_lem (x:Int)(n:Nat)(h1:1≤n)(h2:n≤1000000000): ∃i:Nat,i<n∧wrap64 ((IntKind.u64.wrap x).tmod (n:Int))=(i:Int):=by
 have h0:0≤IntKind.u64.wrap x:=by
  have:IntKind.u64.wrap x=x % 18446744073709551616:=by simp[IntKind.wrap,IntKind.bits,IntKind.signed]
  rw[this]
  exact Int.emod_nonneg _ Z37
 have e:(IntKind.u64.wrap x).tmod (n:Int)=IntKind.u64.wrap x %(n:Int):=Int.tmod_eq_emod_of_nonneg h0
 have h3:0≤IntKind.u64.wrap x %(n:Int):=Int.emod_nonneg _ Z11
 have h4:IntKind.u64.wrap x %(n:Int)<(n:Int):=Int.emod_lt_of_pos _ Z11
 rw[e]
 refine⟨(IntKind.u64.wrap x %(n:Int)).toNat,Z11,?_⟩
 rw[IntWalk.wrap64_in _ Z11]
 omega
theorem drewN_heap (w:World)(n:Nat):(w.drewN n).heap=w.heap:=by induction n<;>rfl
theorem do_ask {N e li:Nat}{h:Gh Op}{c:Lb}{gp:Nat}{g:Gp Op}(ek ew ep:Int)(o:Op)(oa:Option Addr)(oc:Nat)(m:Mz)(ma:Option Addr)(mc:Nat)(w:World)(hgv:GV c w gp g)(D:DI N e h g)(he:e<160)(hu:TxA li c w (.slice oa o.c.sco.length oc) o)(hli: ¬Fg li)(hkd:ek=0):
 Calls Tryz.prog 26 #[.pointer (some ⟨gp,0,none⟩),.agg #[.int .i64 ek,.int .i64 ew,.int .i64 ep,.int .i64 o.ed,.int .i64 o.sq,.int .i64 o.lo,.int .i64 o.c.kd,.string ⟨o.c.fam.toArray⟩,.int .i64 o.c.ser,.int .i64 o.c.tok,.string ⟨o.c.cli.toArray⟩,.string ⟨o.c.usr.toArray⟩,.slice oa o.c.sco.length oc,.string ⟨o.c.red.toArray⟩,.string ⟨o.c.cha.toArray⟩,.string ⟨o.c.met.toArray⟩,.string ⟨o.c.ver.toArray⟩,.bool o.c.rf,.int .i64 o.c.edg,.int .i64 m.kd,.int .i64 m.fr,.int .i64 m.vw,.int .i64 m.nr,.int .i64 m.ao,.slice ma m.ops.length mc,.int .i64 m.cm,.int .i64 m.sb,.int .i64 m.ls]] w fun e' w'=>e'= .returned (.bool true)∧ ∃g',Mg c w w' gp g'∧DG e h g g':=by
 have HKD:=Lib.hid hkd
 clear hkd
 obtain⟨ps,br,cr,bk,ck,bs,cs,wv,bt,ct,ov,ss,hB,hG,hL,lbr,lbk,lbs,lbt⟩:=hgv.opn D.n.1
 obtain⟨wa,wc,ew2⟩:=hG.w.slice
 subst ew2
 obtain⟨w1,hw1⟩: ∃w1,w1=w.alloc (.cells #[.int .i64 ek,.int .i64 ew,.int .i64 ep,.int .i64 o.ed,.int .i64 o.sq,.int .i64 o.lo,.int .i64 o.c.kd,.string ⟨o.c.fam.toArray⟩,.int .i64 o.c.ser,.int .i64 o.c.tok,.string ⟨o.c.cli.toArray⟩,.string ⟨o.c.usr.toArray⟩,.slice oa o.c.sco.length oc,.string ⟨o.c.red.toArray⟩,.string ⟨o.c.cha.toArray⟩,.string ⟨o.c.met.toArray⟩,.string ⟨o.c.ver.toArray⟩,.bool o.c.rf,.int .i64 o.c.edg,.int .i64 m.kd,.int .i64 m.fr,.int .i64 m.vw,.int .i64 m.nr,.int .i64 m.ao,.slice ma m.ops.length mc,.int .i64 m.cm,.int .i64 m.sb,.int .i64 m.ls] 62):=⟨_,rfl⟩
 obtain⟨b1,hb1⟩: ∃b1,b1=w.heap.size:=⟨_,rfl⟩
 have hbw:Below w.heap.size w w1:=by rw[hw1];exact(Below.refl _ _).alloc (Nat.le_refl _) _
 have hE1:Blk w1 b1 62 [.int .i64 ek,.int .i64 ew,.int .i64 ep,.int .i64 o.ed,.int .i64 o.sq,.int .i64 o.lo,.int .i64 o.c.kd,.string ⟨o.c.fam.toArray⟩,.int .i64 o.c.ser,.int .i64 o.c.tok,.string ⟨o.c.cli.toArray⟩,.string ⟨o.c.usr.toArray⟩,.slice oa o.c.sco.length oc,.string ⟨o.c.red.toArray⟩,.string ⟨o.c.cha.toArray⟩,.string ⟨o.c.met.toArray⟩,.string ⟨o.c.ver.toArray⟩,.bool o.c.rf,.int .i64 o.c.edg,.int .i64 m.kd,.int .i64 m.fr,.int .i64 m.vw,.int .i64 m.nr,.int .i64 m.ao,.slice ma m.ops.length mc,.int .i64 m.cm,.int .i64 m.sb,.int .i64 m.ls]:=by rw[hw1,hb1];exact Blk.new w 62 _
 have HE1:=Lib.hid hE1
 have HH:=Lib.hid (And.intro hB (And.intro hG (And.intro hL (And.intro hgv (And.intro D (And.intro he (And.intro hu (And.intro hli (And.intro hbw hb1)))))))))
 obtain⟨i,hin,hi⟩:=mod_lem ew g.n D.n.1 Z103
 have e1:=hE1.cell 1 rfl
 have e2:=hE1.cell 2 rfl
 have e0:=hE1.cell 0 rfl
 have y0:=(hB.below hbw hB.lt).cell 0 rfl
 have y3:=(hB.below hbw hB.lt).cell 3 rfl
 have hnz: ¬(g.n:Int)=0:=by have:=D.n.1;omega
 have hnu:IntKind.u64.wrap (g.n:Int)=(g.n:Int):=by
  exact Z34
 have hw9:=D.way
 have HW1:=Lib.hid hw1
 rw[hw1,hb1] at e0 e1 e2
 rw[hw1] at y0 y3
 clear hB hG hL hgv D he hu hli hbw hE1 lbr lbk lbs lbt hw1 hb1
 go_enter Tryz.func26,Tryz.ntmps26
 go_upto_region 1 with fail
 go_quiet (fail)
 simp only[hi]
 have HB2:Hid (Below w.heap.size w (w1.drewN nq)∧(w1.drewN nq).heap=w1.heap):=Lib.hid ⟨below_drewN HH.out.2.2.2.2.2.2.2.2.1 nq,drewN_heap w1 nq⟩
 rw[←HW1.out] at y0 y3 e0 e1 e2⊢
 rw[←HH.out.2.2.2.2.2.2.2.2.2] at e0 e1 e2⊢
 generalize w1.drewN nq=w2 at*
 have e0:=(cell_eq (congrArg (fun h=>h[b1]?) HB2.out.2) 0).trans e0
 have e2:=(cell_eq (congrArg (fun h=>h[b1]?) HB2.out.2) 2).trans e2
 have y3:=(cell_eq (congrArg (fun h=>h[gp]?) HB2.out.2) 3).trans y3
 clear y0 e1
 go_upto_if 25 with fail
 go_cut [6] from 25 (fun kv wx=> ∃z:Int,kv= .int .i64 z∧(g.way.length=0→z= -1)∧(0<g.way.length→ ∃k:Nat,k<g.way.length∧z=(k:Int))∧ ∃n,wx=w2.drewN n)
 case first=>
  exact Z10
 case rest=>
  trace_state
  obtain⟨z,rfl,hz0,hz1,n3,rfl⟩:=hcut
  have HB3:Hid (Below w.heap.size w (w2.drewN n3)∧(w2.drewN n3).heap=w1.heap):=Lib.hid ⟨below_drewN HB2.out.1 n3,(drewN_heap w2 n3).trans HB2.out.2⟩
  generalize w2.drewN n3=w3 at*
  have e0:w3.cell? ⟨b1,0,none⟩=some (.int .i64 ek):=(cell_eq (congrArg (fun h=>h[b1]?) HB3.out.2) 0).trans (HE1.out.cell 0 rfl)
  have HE3:Hid (Blk w3 b1 62 [.int .i64 ek,.int .i64 ew,.int .i64 ep,.int .i64 o.ed,.int .i64 o.sq,.int .i64 o.lo,.int .i64 o.c.kd,.string ⟨o.c.fam.toArray⟩,.int .i64 o.c.ser,.int .i64 o.c.tok,.string ⟨o.c.cli.toArray⟩,.string ⟨o.c.usr.toArray⟩,.slice oa o.c.sco.length oc,.string ⟨o.c.red.toArray⟩,.string ⟨o.c.cha.toArray⟩,.string ⟨o.c.met.toArray⟩,.string ⟨o.c.ver.toArray⟩,.bool o.c.rf,.int .i64 o.c.edg,.int .i64 m.kd,.int .i64 m.fr,.int .i64 m.vw,.int .i64 m.nr,.int .i64 m.ao,.slice ma m.ops.length mc,.int .i64 m.cm,.int .i64 m.sb,.int .i64 m.ls]):=Lib.hid ((congrArg (fun h=>h[b1]?) HB3.out.2).trans HE1.out)
  have hn7:g.n≤7:=by have:=HH.out.2.2.2.2.1.n;omega
  have HV3:=Lib.hid (HH.out.2.2.2.1.below hn7 HB3.out.1)
  have HI:=Lib.hid (And.intro hin (And.intro hz0 (And.intro hz1 hn7)))
  clear e2 y3 HB2 HW1 hz0 hz1 hnz hnu hw9 hi hn7
  have HFIN:Hid (∀w' g' h' N',Mg c w3 w' gp g'→DI N' (e+1) h' g'→Gon g.n h h' g g'→ ∃g',Mg c w w' gp g'∧DG e h g g'):=Lib.hid fun w' g' h' N' q1 q2 q3=>⟨g',Mg.trans (Lx.refl _ _) (Fr.of_below HB3.out.1) q1,⟨h',N',q2,q3⟩⟩
  obtain⟨ps,br,cr,bk,ck,bs,cs,wv,bt,ct,ov,ss,hB,hG,hL,-⟩:=HV3.out.opn HH.out.2.2.2.2.1.n.1
  obtain⟨x1,_,_,_,_,_⟩:=hG.cells HI.out.1
  have y0:=hB.cell 0 rfl
  have HG:=Lib.hid (And.intro hB (And.intro hG hL))
  have t1:(i:Int)<(g.n:Int):=by have:=HI.out.1;omega
  have HBD:Hid ((g.saves i).length≤100000000∧g.way.length≤100000000):=Lib.hid (by
   have D:=HH.out.2.2.2.2.1
   have h1:=D.sv.n i HI.out.1
   have h2:=D.way
   have h3:=D.le
   omega)
  clear hB hG hL hin
  have k0:(ek==0)=true:=by simp[HKD.out]
  obtain⟨h5,hds⟩:=HH.out.2.2.2.2.1.ask HH.out.2.2.2.2.2.1 HI.out.1 o
  have HDS:=Lib.hid hds
  have has0:=ask_any (i:=i) o (.slice oa o.c.sco.length oc) (ps i) w3.drew ((HG.out.2.1.rp i HI.out.1).keep (Lx.refl w3 c) fun _ _ _=>rfl) (HH.out.2.2.2.2.1.gi.li Z113 HI.out.2.2.2 HI.out.1) (HH.out.2.2.2.2.1.gi.hbr HI.out.1) ((opE_ok li).keep _ _ _ _ _ _ HH.out.2.2.2.2.2.2.1 (Lx.refl w c) fun j hj _=>HB3.out.1.block j hj) (by rw[(HH.out.2.2.2.2.1.gi.em i HI.out.1).1];exact Nat.zero_le _)
  have HAS:Hid (Calls Tryz.prog 11 #[.pointer (some ⟨ps i,0,none⟩),opV o (.slice oa o.c.sco.length oc)] w3.drew fun e w'=> ∃a f:Int,e= .returned (.tuple #[.int .i64 a,.int .i64 f])∧Mt (Fi i) i c w3.drew w' (ps i) (if askE mayO (g.r i) o=0 then Vw.ask (g.r i) o else g.r i)):=Lib.hid (has0.mono fun e w' q=>⟨_,_,q.1,q.2⟩)
  unfold opV at HAS
  clear hds has0
  go_upto_region 7 with fail
  refine wp_region_K (fun W=>Hid (W.cell? ⟨gp,0,none⟩=some (.slice (some ⟨br,0,none⟩) g.n cr)∧W.cell? ⟨br,i,none⟩=some (.pointer (some ⟨ps i,0,none⟩))∧Blk W b1 62 [.int .i64 ek,.int .i64 ew,.int .i64 ep,.int .i64 o.ed,.int .i64 o.sq,.int .i64 o.lo,.int .i64 o.c.kd,.string ⟨o.c.fam.toArray⟩,.int .i64 o.c.ser,.int .i64 o.c.tok,.string ⟨o.c.cli.toArray⟩,.string ⟨o.c.usr.toArray⟩,.slice oa o.c.sco.length oc,.string ⟨o.c.red.toArray⟩,.string ⟨o.c.cha.toArray⟩,.string ⟨o.c.met.toArray⟩,.string ⟨o.c.ver.toArray⟩,.bool o.c.rf,.int .i64 o.c.edg,.int .i64 m.kd,.int .i64 m.fr,.int .i64 m.vw,.int .i64 m.nr,.int .i64 m.ao,.slice ma m.ops.length mc,.int .i64 m.cm,.int .i64 m.sb,.int .i64 m.ls])) 9 Z27 ?_ (fun hHeld1=> ?_)
  ·exact Lib.hid ⟨y0,x1,HE3.out⟩
  refine tkK 0 ?_ (y:=Z7)
  try simp only[ap]
  refine tkK 1 ?_ (y:=Z7)
  try simp only[ap]
  refine tkK 2 ?_ (y:=Z7)
  try simp only[ap]
  refine tkK 3 ?_ (y:=Z211)
  try simp only[ap]
  refine tkK 4 ?_ (y:=Z7)
  try simp only[ap]
  refine tkK 5 ?_ (y:=Z7)
  try simp only[ap]
  refine tkK 6 ?_ (y:=Z211)
  try simp only[ap]
  refine tkK 7 ?_ (y:=Z7)
  try simp only[ap]
  refine tkK 8 ?_ (y:=by refine Or.inl ⟨Z31,?_⟩;intro W hSw;(try dsimp only at hSw);(have hb:=hSw.out.2.2;clear hSw;have z3:=hb.cell 3 rfl;have z4:=hb.cell 4 rfl;have z5:=hb.cell 5 rfl;have z6:=hb.cell 6 rfl;have z7:=hb.cell 7 rfl;have z8:=hb.cell 8 rfl;have z9:=hb.cell 9 rfl;have z10:=hb.cell 10 rfl;have z11:=hb.cell 11 rfl;have z12:=hb.cell 12 rfl;have z13:=hb.cell 13 rfl;have z14:=hb.cell 14 rfl;have z15:=hb.cell 15 rfl;have z16:=hb.cell 16 rfl;have z17:=hb.cell 17 rfl;have z18:=hb.cell 18 rfl;clear hb);go_simp;(try with_reducible rfl))
  try simp only[ap]
  refine wpAnyK_lasts [] Z27 Z31 Z31 ?_
  simp only[List.filterMap_cons,List.filterMap_nil,List.getElem?_toArray,List.getElem?_cons_succ,List.getElem?_cons_zero]
  refine wpList_step fun K hK0=> ?_
  have hK:=Lib.hid hK0
  clear hK0
  rw[if_pos Z31]
  go_simp
  refine HAS.out.mono ?_
  rintro e4 w4 ⟨a4,f4,rfl,hm4⟩
  have HM4:=Lib.hid (Mt.undrew hm4)
  clear hm4
  go_wp2_with fail
  refine hK.out _ _ ?_
  clear hK
  try simp only[ap]
  obtain⟨c4,hx4,hf4,hr4⟩:=HM4.out
  have HSE:=Lib.hid (now_any w3 w4 HG.out.2.2.1 HG.out.1 HG.out.2.1 HH.out.2.2.2.2.1.n HI.out.1 HDS.out.pre Z137 HDS.out.sz HBD.out hx4 hf4 hr4)
  clear hx4 hf4 hr4 hHeld1 HAS
  exact Z78
theorem do_tick {N e li:Nat}{h:Gh Op}{c:Lb}{gp:Nat}{g:Gp Op}(ek ew ep:Int)(o:Op)(oa:Option Addr)(oc:Nat)(m:Mz)(ma:Option Addr)(mc:Nat)(w:World)(hgv:GV c w gp g)(D:DI N e h g)(he:e<160)(hu:TxA li c w (.slice oa o.c.sco.length oc) o)(hli: ¬Fg li)(hkd:ek=1):
 Calls Tryz.prog 26 #[.pointer (some ⟨gp,0,none⟩),.agg #[.int .i64 ek,.int .i64 ew,.int .i64 ep,.int .i64 o.ed,.int .i64 o.sq,.int .i64 o.lo,.int .i64 o.c.kd,.string ⟨o.c.fam.toArray⟩,.int .i64 o.c.ser,.int .i64 o.c.tok,.string ⟨o.c.cli.toArray⟩,.string ⟨o.c.usr.toArray⟩,.slice oa o.c.sco.length oc,.string ⟨o.c.red.toArray⟩,.string ⟨o.c.cha.toArray⟩,.string ⟨o.c.met.toArray⟩,.string ⟨o.c.ver.toArray⟩,.bool o.c.rf,.int .i64 o.c.edg,.int .i64 m.kd,.int .i64 m.fr,.int .i64 m.vw,.int .i64 m.nr,.int .i64 m.ao,.slice ma m.ops.length mc,.int .i64 m.cm,.int .i64 m.sb,.int .i64 m.ls]] w fun e' w'=>e'= .returned (.bool true)∧ ∃g',Mg c w w' gp g'∧DG e h g g':=by
 have HKD:=Lib.hid hkd
 clear hkd
 obtain⟨ps,br,cr,bk,ck,bs,cs,wv,bt,ct,ov,ss,hB,hG,hL,lbr,lbk,lbs,lbt⟩:=hgv.opn D.n.1
 obtain⟨wa,wc,ew2⟩:=hG.w.slice
 subst ew2
 obtain⟨w1,hw1⟩: ∃w1,w1=w.alloc (.cells #[.int .i64 ek,.int .i64 ew,.int .i64 ep,.int .i64 o.ed,.int .i64 o.sq,.int .i64 o.lo,.int .i64 o.c.kd,.string ⟨o.c.fam.toArray⟩,.int .i64 o.c.ser,.int .i64 o.c.tok,.string ⟨o.c.cli.toArray⟩,.string ⟨o.c.usr.toArray⟩,.slice oa o.c.sco.length oc,.string ⟨o.c.red.toArray⟩,.string ⟨o.c.cha.toArray⟩,.string ⟨o.c.met.toArray⟩,.string ⟨o.c.ver.toArray⟩,.bool o.c.rf,.int .i64 o.c.edg,.int .i64 m.kd,.int .i64 m.fr,.int .i64 m.vw,.int .i64 m.nr,.int .i64 m.ao,.slice ma m.ops.length mc,.int .i64 m.cm,.int .i64 m.sb,.int .i64 m.ls] 62):=⟨_,rfl⟩
 obtain⟨b1,hb1⟩: ∃b1,b1=w.heap.size:=⟨_,rfl⟩
 have hbw:Below w.heap.size w w1:=by rw[hw1];exact(Below.refl _ _).alloc (Nat.le_refl _) _
 have hE1:Blk w1 b1 62 [.int .i64 ek,.int .i64 ew,.int .i64 ep,.int .i64 o.ed,.int .i64 o.sq,.int .i64 o.lo,.int .i64 o.c.kd,.string ⟨o.c.fam.toArray⟩,.int .i64 o.c.ser,.int .i64 o.c.tok,.string ⟨o.c.cli.toArray⟩,.string ⟨o.c.usr.toArray⟩,.slice oa o.c.sco.length oc,.string ⟨o.c.red.toArray⟩,.string ⟨o.c.cha.toArray⟩,.string ⟨o.c.met.toArray⟩,.string ⟨o.c.ver.toArray⟩,.bool o.c.rf,.int .i64 o.c.edg,.int .i64 m.kd,.int .i64 m.fr,.int .i64 m.vw,.int .i64 m.nr,.int .i64 m.ao,.slice ma m.ops.length mc,.int .i64 m.cm,.int .i64 m.sb,.int .i64 m.ls]:=by rw[hw1,hb1];exact Blk.new w 62 _
 have HE1:=Lib.hid hE1
 have HH:=Lib.hid (And.intro hB (And.intro hG (And.intro hL (And.intro hgv (And.intro D (And.intro he (And.intro hu (And.intro hli (And.intro hbw hb1)))))))))
 obtain⟨i,hin,hi⟩:=mod_lem ew g.n D.n.1 Z103
 have e1:=hE1.cell 1 rfl
 have e2:=hE1.cell 2 rfl
 have e0:=hE1.cell 0 rfl
 have y0:=(hB.below hbw hB.lt).cell 0 rfl
 have y3:=(hB.below hbw hB.lt).cell 3 rfl
 have hnz: ¬(g.n:Int)=0:=by have:=D.n.1;omega
 have hnu:IntKind.u64.wrap (g.n:Int)=(g.n:Int):=by
  exact Z34
 have hw9:=D.way
 have HW1:=Lib.hid hw1
 rw[hw1,hb1] at e0 e1 e2
 rw[hw1] at y0 y3
 clear hB hG hL hgv D he hu hli hbw hE1 lbr lbk lbs lbt hw1 hb1
 go_enter Tryz.func26,Tryz.ntmps26
 go_upto_region 1 with fail
 go_quiet (fail)
 simp only[hi]
 have HB2:Hid (Below w.heap.size w (w1.drewN nq)∧(w1.drewN nq).heap=w1.heap):=Lib.hid ⟨below_drewN HH.out.2.2.2.2.2.2.2.2.1 nq,drewN_heap w1 nq⟩
 rw[←HW1.out] at y0 y3 e0 e1 e2⊢
 rw[←HH.out.2.2.2.2.2.2.2.2.2] at e0 e1 e2⊢
 generalize w1.drewN nq=w2 at*
 have e0:=(cell_eq (congrArg (fun h=>h[b1]?) HB2.out.2) 0).trans e0
 have e2:=(cell_eq (congrArg (fun h=>h[b1]?) HB2.out.2) 2).trans e2
 have y3:=(cell_eq (congrArg (fun h=>h[gp]?) HB2.out.2) 3).trans y3
 clear y0 e1
 go_upto_if 25 with fail
 go_cut [6] from 25 (fun kv wx=> ∃z:Int,kv= .int .i64 z∧(g.way.length=0→z= -1)∧(0<g.way.length→ ∃k:Nat,k<g.way.length∧z=(k:Int))∧ ∃n,wx=w2.drewN n)
 case first=>
  exact Z10
 case rest=>
  trace_state
  obtain⟨z,rfl,hz0,hz1,n3,rfl⟩:=hcut
  have HB3:Hid (Below w.heap.size w (w2.drewN n3)∧(w2.drewN n3).heap=w1.heap):=Lib.hid ⟨below_drewN HB2.out.1 n3,(drewN_heap w2 n3).trans HB2.out.2⟩
  generalize w2.drewN n3=w3 at*
  have e0:w3.cell? ⟨b1,0,none⟩=some (.int .i64 ek):=(cell_eq (congrArg (fun h=>h[b1]?) HB3.out.2) 0).trans (HE1.out.cell 0 rfl)
  have HE3:Hid (Blk w3 b1 62 [.int .i64 ek,.int .i64 ew,.int .i64 ep,.int .i64 o.ed,.int .i64 o.sq,.int .i64 o.lo,.int .i64 o.c.kd,.string ⟨o.c.fam.toArray⟩,.int .i64 o.c.ser,.int .i64 o.c.tok,.string ⟨o.c.cli.toArray⟩,.string ⟨o.c.usr.toArray⟩,.slice oa o.c.sco.length oc,.string ⟨o.c.red.toArray⟩,.string ⟨o.c.cha.toArray⟩,.string ⟨o.c.met.toArray⟩,.string ⟨o.c.ver.toArray⟩,.bool o.c.rf,.int .i64 o.c.edg,.int .i64 m.kd,.int .i64 m.fr,.int .i64 m.vw,.int .i64 m.nr,.int .i64 m.ao,.slice ma m.ops.length mc,.int .i64 m.cm,.int .i64 m.sb,.int .i64 m.ls]):=Lib.hid ((congrArg (fun h=>h[b1]?) HB3.out.2).trans HE1.out)
  have hn7:g.n≤7:=by have:=HH.out.2.2.2.2.1.n;omega
  have HV3:=Lib.hid (HH.out.2.2.2.1.below hn7 HB3.out.1)
  have HI:=Lib.hid (And.intro hin (And.intro hz0 (And.intro hz1 hn7)))
  clear e2 y3 HB2 HW1 hz0 hz1 hnz hnu hw9 hi hn7
  have HFIN:Hid (∀w' g' h' N',Mg c w3 w' gp g'→DI N' (e+1) h' g'→Gon g.n h h' g g'→ ∃g',Mg c w w' gp g'∧DG e h g g'):=Lib.hid fun w' g' h' N' q1 q2 q3=>⟨g',Mg.trans (Lx.refl _ _) (Fr.of_below HB3.out.1) q1,⟨h',N',q2,q3⟩⟩
  obtain⟨ps,br,cr,bk,ck,bs,cs,wv,bt,ct,ov,ss,hB,hG,hL,-⟩:=HV3.out.opn HH.out.2.2.2.2.1.n.1
  obtain⟨x1,_,_,_,_,_⟩:=hG.cells HI.out.1
  have y0:=hB.cell 0 rfl
  have HG:=Lib.hid (And.intro hB (And.intro hG hL))
  have t1:(i:Int)<(g.n:Int):=by have:=HI.out.1;omega
  have HBD:Hid ((g.saves i).length≤100000000∧g.way.length≤100000000):=Lib.hid (by
   have D:=HH.out.2.2.2.2.1
   have h1:=D.sv.n i HI.out.1
   have h2:=D.way
   have h3:=D.le
   omega)
  clear hB hG hL hin
  have k0:(ek==0)=false:=by simp[HKD.out]
  have k1:(ek==1)=true:=by simp[HKD.out]
  obtain⟨h5,hds⟩:=HH.out.2.2.2.2.1.tick HH.out.2.2.2.2.2.1 HI.out.1
  have HDS:=Lib.hid hds
  have HTK:=Lib.hid (tick_any (i:=i) (ps i) w3 (HG.out.2.1.rp i HI.out.1) (HH.out.2.2.2.2.1.gi.li Z113 HI.out.2.2.2 HI.out.1) (HH.out.2.2.2.2.1.gi.hbr HI.out.1) (by have h1:=HH.out.2.2.2.2.1.id i HI.out.1;have h2:=HH.out.2.2.2.2.1.le;have h3:TM=1099511627776:=rfl;omega) (by rw[(HH.out.2.2.2.2.1.gi.em i HI.out.1).1,(HH.out.2.2.2.2.1.gi.em i HI.out.1).2.1];exact⟨Nat.zero_le _,Nat.zero_le _⟩))
  clear hds
  go_wp2_with fail
  refine HTK.out.mono ?_
  rintro e4 w4 ⟨rfl,hm4⟩
  have HM4:=Lib.hid hm4
  clear hm4
  obtain⟨c4,hx4,hf4,hr4⟩:=HM4.out
  have HSE:=Lib.hid (now_any w3 w4 HG.out.2.2.1 HG.out.1 HG.out.2.1 HH.out.2.2.2.2.1.n HI.out.1 HDS.out.pre Z137 HDS.out.sz HBD.out hx4 hf4 hr4)
  clear hx4 hf4 hr4 HTK
  exact Z78
theorem do_load {N e li:Nat}{h:Gh Op}{c:Lb}{gp:Nat}{g:Gp Op}(ek ew ep:Int)(o:Op)(oa:Option Addr)(oc:Nat)(m:Mz)(ma:Option Addr)(mc:Nat)(w:World)(hgv:GV c w gp g)(D:DI N e h g)(he:e<160)(hu:TxA li c w (.slice oa o.c.sco.length oc) o)(hli: ¬Fg li)(hkd:ek=5):
 Calls Tryz.prog 26 #[.pointer (some ⟨gp,0,none⟩),.agg #[.int .i64 ek,.int .i64 ew,.int .i64 ep,.int .i64 o.ed,.int .i64 o.sq,.int .i64 o.lo,.int .i64 o.c.kd,.string ⟨o.c.fam.toArray⟩,.int .i64 o.c.ser,.int .i64 o.c.tok,.string ⟨o.c.cli.toArray⟩,.string ⟨o.c.usr.toArray⟩,.slice oa o.c.sco.length oc,.string ⟨o.c.red.toArray⟩,.string ⟨o.c.cha.toArray⟩,.string ⟨o.c.met.toArray⟩,.string ⟨o.c.ver.toArray⟩,.bool o.c.rf,.int .i64 o.c.edg,.int .i64 m.kd,.int .i64 m.fr,.int .i64 m.vw,.int .i64 m.nr,.int .i64 m.ao,.slice ma m.ops.length mc,.int .i64 m.cm,.int .i64 m.sb,.int .i64 m.ls]] w fun e' w'=>e'= .returned (.bool true)∧ ∃g',Mg c w w' gp g'∧DG e h g g':=by
 have HKD:=Lib.hid hkd
 clear hkd
 obtain⟨ps,br,cr,bk,ck,bs,cs,wv,bt,ct,ov,ss,hB,hG,hL,lbr,lbk,lbs,lbt⟩:=hgv.opn D.n.1
 obtain⟨wa,wc,ew2⟩:=hG.w.slice
 subst ew2
 obtain⟨w1,hw1⟩: ∃w1,w1=w.alloc (.cells #[.int .i64 ek,.int .i64 ew,.int .i64 ep,.int .i64 o.ed,.int .i64 o.sq,.int .i64 o.lo,.int .i64 o.c.kd,.string ⟨o.c.fam.toArray⟩,.int .i64 o.c.ser,.int .i64 o.c.tok,.string ⟨o.c.cli.toArray⟩,.string ⟨o.c.usr.toArray⟩,.slice oa o.c.sco.length oc,.string ⟨o.c.red.toArray⟩,.string ⟨o.c.cha.toArray⟩,.string ⟨o.c.met.toArray⟩,.string ⟨o.c.ver.toArray⟩,.bool o.c.rf,.int .i64 o.c.edg,.int .i64 m.kd,.int .i64 m.fr,.int .i64 m.vw,.int .i64 m.nr,.int .i64 m.ao,.slice ma m.ops.length mc,.int .i64 m.cm,.int .i64 m.sb,.int .i64 m.ls] 62):=⟨_,rfl⟩
 obtain⟨b1,hb1⟩: ∃b1,b1=w.heap.size:=⟨_,rfl⟩
 have hbw:Below w.heap.size w w1:=by rw[hw1];exact(Below.refl _ _).alloc (Nat.le_refl _) _
 have hE1:Blk w1 b1 62 [.int .i64 ek,.int .i64 ew,.int .i64 ep,.int .i64 o.ed,.int .i64 o.sq,.int .i64 o.lo,.int .i64 o.c.kd,.string ⟨o.c.fam.toArray⟩,.int .i64 o.c.ser,.int .i64 o.c.tok,.string ⟨o.c.cli.toArray⟩,.string ⟨o.c.usr.toArray⟩,.slice oa o.c.sco.length oc,.string ⟨o.c.red.toArray⟩,.string ⟨o.c.cha.toArray⟩,.string ⟨o.c.met.toArray⟩,.string ⟨o.c.ver.toArray⟩,.bool o.c.rf,.int .i64 o.c.edg,.int .i64 m.kd,.int .i64 m.fr,.int .i64 m.vw,.int .i64 m.nr,.int .i64 m.ao,.slice ma m.ops.length mc,.int .i64 m.cm,.int .i64 m.sb,.int .i64 m.ls]:=by rw[hw1,hb1];exact Blk.new w 62 _
 have HE1:=Lib.hid hE1
 have HH:=Lib.hid (And.intro hB (And.intro hG (And.intro hL (And.intro hgv (And.intro D (And.intro he (And.intro hu (And.intro hli (And.intro hbw hb1)))))))))
 obtain⟨i,hin,hi⟩:=mod_lem ew g.n D.n.1 Z103
 have e1:=hE1.cell 1 rfl
 have e2:=hE1.cell 2 rfl
 have e0:=hE1.cell 0 rfl
 have y0:=(hB.below hbw hB.lt).cell 0 rfl
 have y3:=(hB.below hbw hB.lt).cell 3 rfl
 have hnz: ¬(g.n:Int)=0:=by have:=D.n.1;omega
 have hnu:IntKind.u64.wrap (g.n:Int)=(g.n:Int):=by
  exact Z34
 have hw9:=D.way
 have HW1:=Lib.hid hw1
 rw[hw1,hb1] at e0 e1 e2
 rw[hw1] at y0 y3
 clear hB hG hL hgv D he hu hli hbw hE1 lbr lbk lbs lbt hw1 hb1
 go_enter Tryz.func26,Tryz.ntmps26
 go_upto_region 1 with fail
 go_quiet (fail)
 simp only[hi]
 have HB2:Hid (Below w.heap.size w (w1.drewN nq)∧(w1.drewN nq).heap=w1.heap):=Lib.hid ⟨below_drewN HH.out.2.2.2.2.2.2.2.2.1 nq,drewN_heap w1 nq⟩
 rw[←HW1.out] at y0 y3 e0 e1 e2⊢
 rw[←HH.out.2.2.2.2.2.2.2.2.2] at e0 e1 e2⊢
 generalize w1.drewN nq=w2 at*
 have e0:=(cell_eq (congrArg (fun h=>h[b1]?) HB2.out.2) 0).trans e0
 have e2:=(cell_eq (congrArg (fun h=>h[b1]?) HB2.out.2) 2).trans e2
 have y3:=(cell_eq (congrArg (fun h=>h[gp]?) HB2.out.2) 3).trans y3
 clear y0 e1
 go_upto_if 25 with fail
 go_cut [6] from 25 (fun kv wx=> ∃z:Int,kv= .int .i64 z∧(g.way.length=0→z= -1)∧(0<g.way.length→ ∃k:Nat,k<g.way.length∧z=(k:Int))∧ ∃n,wx=w2.drewN n)
 case first=>
  exact Z10
 case rest=>
  trace_state
  obtain⟨z,rfl,hz0,hz1,n3,rfl⟩:=hcut
  have HB3:Hid (Below w.heap.size w (w2.drewN n3)∧(w2.drewN n3).heap=w1.heap):=Lib.hid ⟨below_drewN HB2.out.1 n3,(drewN_heap w2 n3).trans HB2.out.2⟩
  generalize w2.drewN n3=w3 at*
  have e0:w3.cell? ⟨b1,0,none⟩=some (.int .i64 ek):=(cell_eq (congrArg (fun h=>h[b1]?) HB3.out.2) 0).trans (HE1.out.cell 0 rfl)
  have HE3:Hid (Blk w3 b1 62 [.int .i64 ek,.int .i64 ew,.int .i64 ep,.int .i64 o.ed,.int .i64 o.sq,.int .i64 o.lo,.int .i64 o.c.kd,.string ⟨o.c.fam.toArray⟩,.int .i64 o.c.ser,.int .i64 o.c.tok,.string ⟨o.c.cli.toArray⟩,.string ⟨o.c.usr.toArray⟩,.slice oa o.c.sco.length oc,.string ⟨o.c.red.toArray⟩,.string ⟨o.c.cha.toArray⟩,.string ⟨o.c.met.toArray⟩,.string ⟨o.c.ver.toArray⟩,.bool o.c.rf,.int .i64 o.c.edg,.int .i64 m.kd,.int .i64 m.fr,.int .i64 m.vw,.int .i64 m.nr,.int .i64 m.ao,.slice ma m.ops.length mc,.int .i64 m.cm,.int .i64 m.sb,.int .i64 m.ls]):=Lib.hid ((congrArg (fun h=>h[b1]?) HB3.out.2).trans HE1.out)
  have hn7:g.n≤7:=by have:=HH.out.2.2.2.2.1.n;omega
  have HV3:=Lib.hid (HH.out.2.2.2.1.below hn7 HB3.out.1)
  have HI:=Lib.hid (And.intro hin (And.intro hz0 (And.intro hz1 hn7)))
  clear e2 y3 HB2 HW1 hz0 hz1 hnz hnu hw9 hi hn7
  have HFIN:Hid (∀w' g' h' N',Mg c w3 w' gp g'→DI N' (e+1) h' g'→Gon g.n h h' g g'→ ∃g',Mg c w w' gp g'∧DG e h g g'):=Lib.hid fun w' g' h' N' q1 q2 q3=>⟨g',Mg.trans (Lx.refl _ _) (Fr.of_below HB3.out.1) q1,⟨h',N',q2,q3⟩⟩
  obtain⟨ps,br,cr,bk,ck,bs,cs,wv,bt,ct,ov,ss,hB,hG,hL,-⟩:=HV3.out.opn HH.out.2.2.2.2.1.n.1
  obtain⟨x1,_,_,_,_,_⟩:=hG.cells HI.out.1
  have y0:=hB.cell 0 rfl
  have HG:=Lib.hid (And.intro hB (And.intro hG hL))
  have t1:(i:Int)<(g.n:Int):=by have:=HI.out.1;omega
  have HBD:Hid ((g.saves i).length≤100000000∧g.way.length≤100000000):=Lib.hid (by
   have D:=HH.out.2.2.2.2.1
   have h1:=D.sv.n i HI.out.1
   have h2:=D.way
   have h3:=D.le
   omega)
  clear hB hG hL hin
  have k0:(ek==0)=false:=by simp[HKD.out]
  have k1:(ek==1)=false:=by simp[HKD.out]
  have k2:(ek==2)=false:=by simp[HKD.out]
  have k3:(ek==3)=false:=by simp[HKD.out]
  have k4:(ek==4)=false:=by simp[HKD.out]
  have k5:(ek==5)=true:=by simp[HKD.out]
  obtain⟨r5,hl5,hr5,h5,hp5,hd5,hg5⟩:=HH.out.2.2.2.2.1.load HH.out.2.2.2.2.2.1 HI.out.1
  have HDS:=Lib.hid (And.intro hd5 hg5)
  have HLO:=Lib.hid (gload_any w3 HV3.out HH.out.2.2.2.2.1.n HI.out.1 hl5 hp5 Z113 hr5 (HH.out.2.2.2.2.1.sv.up (by have:=HH.out.2.2.2.2.1.le;omega) (Nat.le_refl _)) HBD.out.2)
  clear hl5 hr5 hp5 hd5 hg5
  go_wp2_with fail
  refine HLO.out.mono ?_
  rintro e4 w4 ⟨rfl,hm4⟩
  have HM4:=Lib.hid hm4
  clear hm4
  go_wp2_with fail
  go_ret
  exact⟨rfl,HFIN.out _ _ _ _ HM4.out HDS.out.1 HDS.out.2⟩
end Go.Proofs.YtdmjegelcdghlaaGreat.Vw
