/-
  Chapter 22: prepare: ops of its own view.
-/
import Derived.RegionTactic
import Derived.BigRegion
import Derived.Test.YtdmjegelcdghlaaGreatGGen
import Derived.Test.YtdmjegelcdghlaaGreatGDs
set_option maxRecDepth 100000
set_option maxHeartbeats 64000000
set_option linter.unusedVariables false
set_option linter.unusedSimpArgs false
namespace Go.Proofs.YtdmjegelcdghlaaGreat
theorem Z192 {p:Prop}(h:p:=by
 have h3:TM=1099511627776:=rfl
 rw[IntWalk.i64_in _ Z11];omega):p:=h
theorem Z149 {p:Prop}(h:p:=by exact .inl ⟨h2,by show(0:Nat)≠1;omega,h4⟩):p:=h
theorem Z143 {p:Prop}(h:p:=by rw[hc1,hb3];exact c.ext_new (Nat.le_refl _)):p:=h
theorem Z88 {p:Prop}(h:p:=by
 go_wp2_with fail
 refine bodyPost_ret (results_none rfl _ _ _) rfl ?_
 exact⟨rfl,HD.out⟩):p:=h
theorem Z86 {p:Prop}(h:p:=by have:=HH.out.2.2.2.1.ou;show r.out.length≤_;omega):p:=h
theorem Z23 {p:Prop}(h:p:=by
 go_upto_region 11 with fail
 obtain⟨hlq,lvq,hvq,xvq,svq,uvq,hbq,hrq⟩:=HV.out
 have y7:=hbq.cell 7 rfl
 have f7:=hbq.frozen 7
 have y9:=hbq.cell 9 rfl
 have z6:=HMB.out.cell 6 rfl
 obtain⟨q,hq⟩: ∃q,q= {r with st:=0,idle:=0}:=⟨_,rfl⟩
 rw[←hq] at hbq hrq y7 y9
 have HPQ2:Hid (prepare r m=report (prep2 q m) m.fr∧q.out.length≤100000):=Lib.hid (by rw[hq];exact HPQ.out)
 obtain⟨k1,hk1⟩: ∃k1,k1=min m.cm q.ls:=⟨_,rfl⟩
 obtain⟨k2,hk2⟩: ∃k2,k2=max q.cm k1:=⟨_,rfl⟩
 have hmn:min (m.cm:Int) (q.ls:Int)=(k1:Int):=by omega
 have hmx:max (q.cm:Int) (k1:Int)=(k2:Int):=by omega
 have hne:b3≠p:=fun e=>by have h1:=HLB.out;rw[e,hlq] at h1;omega
 have HQ:=Lib.hid (And.intro hlq (And.intro hbq (And.intro hrq (And.intro hne (And.intro hk1 hk2)))))
 clear hlq hbq hrq hne hq hk1 hk2
 go_region
 obtain⟨W11,hW11⟩: ∃W11,W11=(wt.setCell ⟨p,7,none⟩ (.int .i64 (k2:Int))).drew:=⟨_,rfl⟩
 have HB11:Hid (Blk W11 p 94 (rpC {q with cm:=k2} lvq hvq xvq svq uvq)):=Lib.hid (by rw[hW11];exact(HQ.out.2.1.set 7 _).drew)
 have HP11:Hid (Ps p wt W11):=Lib.hid (by rw[hW11];exact((Ps.refl p wt).set _ _).drew)
 have HM11:Hid (Blk W11 b3 37 (msC9 m (.slice oa m.ops.length oc))):=Lib.hid ((HP11.out.heap b3 HQ.out.2.2.2.1).trans HMB.out)
 rw[←hW11]
 clear hW11 y7 f7 y9 z6 hmn hmx
 have y7:=HB11.out.cell 7 rfl
 have y8:=HB11.out.cell 8 rfl
 have f8:=HB11.out.frozen 8
 have z7:=HM11.out.cell 7 rfl
 obtain⟨k3,hk3⟩: ∃k3,k3=min m.sb k2:=⟨_,rfl⟩
 obtain⟨k4,hk4⟩: ∃k4,k4=max q.sb k3:=⟨_,rfl⟩
 have hmn:min (m.sb:Int) (k2:Int)=(k3:Int):=by omega
 have hmx:max (q.sb:Int) (k3:Int)=(k4:Int):=by omega
 have HK4:Hid (prep2 q m= {q with cm:=k2,sb:=k4}):=Lib.hid (by unfold prep2;rw[hk4,hk3,HQ.out.2.2.2.2.2,HQ.out.2.2.2.2.1])
 clear hk3 hk4
 go_upto_region 12 with fail
 go_region
 obtain⟨W12,hW12⟩: ∃W12,W12=(W11.setCell ⟨p,8,none⟩ (.int .i64 (k4:Int))).drew:=⟨_,rfl⟩
 have HB12:Hid (Blk W12 p 94 (rpC {q with cm:=k2,sb:=k4} lvq hvq xvq svq uvq)):=Lib.hid (by rw[hW12];exact(HB11.out.set 8 _).drew)
 have HP12:Hid (Ps p W11 W12):=Lib.hid (by rw[hW12];exact((Ps.refl p W11).set _ _).drew)
 have HM12:Hid (Blk W12 b3 37 (msC9 m (.slice oa m.ops.length oc))):=Lib.hid ((HP12.out.heap b3 HQ.out.2.2.2.1).trans HM11.out)
 rw[←hW12]
 clear hW12 y7 y8 f8 z7 hmn hmx
 have z1:=HM12.out.cell 1 rfl
 have HRP:=Lib.hid (report_any (i:=i) (c:=c1) (r:= {q with cm:=k2,sb:=k4}) m.fr p W12 ⟨HQ.out.1,lvq,hvq,xvq,svq,uvq,HB12.out,by
  have h1:=(HQ.out.2.2.1.ps HQ.out.1 HP11.out).ps HQ.out.1 HP12.out
  exact⟨h1.lg,h1.hv,h1.of,h1.sv,h1.ou⟩⟩ HPQ2.out.2)
 go_wp2_with fail
 refine HRP.out.mono ?_
 rintro e w9 ⟨rfl,hm9⟩
 have HD:Hid (Mt (Fi i) i c w w9 p (prepare r m)):=Lib.hid (by
  have h1:Fr (Fi i) c w W12:=HXW.out.2.trans HXW.out.1 ((HP11.out.fr (by rw[HQ.out.1];exact Fi_0 i)).trans (Lx.refl _ _) (HP12.out.fr (by rw[HQ.out.1];exact Fi_0 i)))
  rw[HPQ2.out.1,HK4.out]
  exact Mt.trans HXW.out.1 h1 (hm9.mono fun l=>Gi_Fi))
 clear hm9
 go_wp2_with fail
 refine bodyPost_end (results_none rfl _ _ _) rfl ?_
 exact⟨rfl,HD.out⟩):p:=h
end Go.Proofs.YtdmjegelcdghlaaGreat
namespace Go.Proofs.YtdmjegelcdghlaaGreat.Vw
open Go.RowKit Go.Maps
def msC9 (m:Ms Op)(u:Value):List Value:= [.int .i64 (m.kd:Int),.int .i64 (m.fr:Int),.int .i64 (m.vw:Int),.int .i64 (m.nr:Int),.int .i64 (m.ao:Int),u,.int .i64 (m.cm:Int),.int .i64 (m.sb:Int),.int .i64 (m.ls:Int)]
structure MB (r:Rp Op)(m:Ms Op):Prop where
 op:m.ops.length≤1048576
 ao:m.ao≤TM
 cm:m.cm≤4*TM
 lo:m.ao≤r.ls→m.ao+m.ops.length≤r.bs+1000000
theorem prepare_any {i lo li:Nat}{c:Lb}{r:Rp Op}(m:Ms Op)(ov:Value)(p:Nat)(w:World)(h:RV i c w p r)(hl:LI r)(hm:SlR (opE li) c lo w ov m.ops)(hlo: ¬Fi i lo∧ ¬Fi i li)(hb:MB r m):
 Calls Tryz.prog 54 #[.pointer (some ⟨p,0,none⟩),msV m.kd m.fr m.vw m.nr m.ao ov m.cm m.sb m.ls] w fun e w'=>e= .returned (.tuple #[])∧Mt (Fi i) i c w w' p (prepare r m):=by
 obtain⟨hlp,lv,hv,xv,sv,uv,hbp,hrp⟩:=h
 obtain⟨oa,oc,eo⟩:=hm.slice
 subst eo
 have hpl:=hbp.lt
 have HH:=Lib.hid (And.intro hlp (And.intro hbp (And.intro hrp (And.intro hl (And.intro hm (And.intro hlo hb))))))
 unfold msV
 clear hlp hbp hrp hl hm hlo hb
 go_enter Tryz.func54,Tryz.ntmps54
 go_upto_region 1 with fail
 obtain⟨w1,hw1⟩: ∃w1,w1=w.alloc (.cells #[.int .i64 (m.kd:Int),.int .i64 (m.fr:Int),.int .i64 (m.vw:Int),.int .i64 (m.nr:Int),.int .i64 (m.ao:Int),.slice oa m.ops.length oc,.int .i64 (m.cm:Int),.int .i64 (m.sb:Int),.int .i64 (m.ls:Int)] 37):=⟨_,rfl⟩
 obtain⟨b3,hb3⟩: ∃b3,b3=w.heap.size:=⟨_,rfl⟩
 have HB1:Hid (Below w.heap.size w w1):=Lib.hid Z41
 have HM1:Hid (Blk w1 b3 37 (msC9 m (.slice oa m.ops.length oc))):=Lib.hid (by rw[hw1,hb3];exact Blk.new w 37 _)
 obtain⟨c1,hc1⟩: ∃c1,c1=c.ext w.heap.size:=⟨_,rfl⟩
 have HX1:Hid (Lx w c c1∧c1 b3=1∧RV i c1 w1 p r∧SlR (opE li) c1 lo w1 (.slice oa m.ops.length oc) m.ops):=Lib.hid (by
  have h1:Lx w c c1:=by rw[hc1];exact c.ext_lx w
  refine⟨h1,Z143,(RV.mk HH.out.1 ⟨lv,hv,xv,sv,uv,HH.out.2.1,HH.out.2.2.1⟩:RV i c w p r).below h1 HB1.out,(HH.out.2.2.2.2.1.lx (opE_ok li) h1).below (opE_ok li) HB1.out⟩)
 have HP1:=Lib.hid (HH.out.2.1.below HB1.out hpl)
 rw[←hw1,←hb3]
 clear hw1 hb3 hc1
 have HMB1:=HM1
 have y4:=HP1.out.cell 4 rfl
 have y3:=HP1.out.cell 3 rfl
 have z1:=HM1.out.cell 1 rfl
 go_upto_region 2 with fail
 by_cases hnv:r.nr=r.vw
 case neg=>
  have t1: ¬(r.nr:Int)=(r.vw:Int):=by omega
  go_quiet (fail)
  have HS:=Lib.hid (send_one (i:=i) (c:=c1) (r:=r) (mKd 6) m.fr (.slice none 0 0) p (w1.drewN nq) (HX1.out.2.2.1.drewN nq) (SlR.nil _ _ 1 _) (Gi_1 i) (Nat.zero_le _) (by have:=HH.out.2.2.2.1.ou;omega))
  have HF:Hid (Fr (Fi i) c w (w1.drewN nq)):=Lib.hid ((Fr.of_below (below_drewN HB1.out nq)))
  unfold mKd msV at HS
  simp only at HS
  go_wp2_with fail
  refine HS.out.mono ?_
  rintro e w9 ⟨rfl,hm9⟩
  have HD:Hid (Mt (Fi i) i c w w9 p (prepare r m)):=Lib.hid (by
   have h1:prepare r m=snd1 (mKd 6) r m.fr:=by unfold prepare;rw[if_neg hnv]
   rw[h1]
   exact Mt.trans HX1.out.1 HF.out (hm9.mono fun l=>Gi_Fi))
  clear hm9
  exact Z88
 case pos=>
  have t1:(r.nr:Int)=(r.vw:Int):=by omega
  go_quiet (fail)
  have HPq:=Lib.hid (HP1.out.drewN nq)
  have y2:=HPq.out.cell 2 rfl
  have f2:=HPq.out.frozen 2
  have y11:=HPq.out.cell 11 rfl
  have f11:=HPq.out.frozen 11
  have z4:=(HM1.out.drewN nq).cell 4 rfl
  have z5:=(HM1.out.drewN nq).cell 5 rfl
  obtain⟨last,hlast⟩: ∃last,last=m.ao+m.ops.length:=⟨_,rfl⟩
  have hw5:IntKind.i64.wrap ((m.ao:Int)+(m.ops.length:Int))=(last:Int):=by
   have h1:=HH.out.2.2.2.2.2.2.op
   have h2:=HH.out.2.2.2.2.2.2.ao
   exact Z192
  have HLA:=Lib.hid hlast
  have HNV:=Lib.hid hnv
  have hne:b3≠p:=fun e=>by have h1:=HX1.out.2.1;rw[e,HX1.out.2.2.1.lb] at h1;omega
  obtain⟨ws,hws⟩: ∃ws,ws=((w1.drewN nq).setCell ⟨p,2,none⟩ (.int .i64 0)).setCell ⟨p,11,none⟩ (.int .i64 0):=⟨_,rfl⟩
  have HPS:Hid (Ps p (w1.drewN nq) ws):=Lib.hid (by rw[hws];exact((Ps.refl p _).set _ _).set _ _)
  have HBS:Hid (Blk ws p 94 (rpC {r with st:=0,idle:=0} lv hv xv sv uv)):=Lib.hid (by rw[hws];exact(HPq.out.set 2 _).set 11 _)
  have HMS:Hid (Blk ws b3 37 (msC9 m (.slice oa m.ops.length oc))):=Lib.hid ((HPS.out.heap b3 hne).trans (HM1.out.drewN nq))
  have HRS:Hid (RP i c1 ws {r with st:=0,idle:=0} lv hv xv sv uv):=Lib.hid (by
   have h0:RP i c1 (w1.drewN nq) r lv hv xv sv uv:=HH.out.2.2.1.below HX1.out.1 (below_drewN HB1.out nq)
   have h1:=h0.ps HX1.out.2.2.1.lb HPS.out
   refine⟨h1.lg,h1.hv,?_,h1.sv,h1.ou⟩
   rcases h1.of with⟨h2,h3,h4⟩|h2
   ·exact Z149
   ·exact .inr h2)
  have HXS:Hid (Lx w c c1∧Fr (Fi i) c w ws):=Lib.hid ⟨HX1.out.1,(Fr.of_below (below_drewN HB1.out nq)).trans HX1.out.1 (HPS.out.fr (by rw[HX1.out.2.2.1.lb];exact Fi_0 i))⟩
  have HSO:Hid (SlR (opE li) c1 lo ws (.slice oa m.ops.length oc) m.ops):=Lib.hid ((HX1.out.2.2.2.below (opE_ok li) (below_drewN (Below.refl _ _) nq)).fr (opE_ok li) (Lx.refl _ _) (HPS.out.fr (F:=Fi i) (by rw[HX1.out.2.2.1.lb];exact Fi_0 i)) fun k hk=>by
   rcases hk with hk|hk
   ·have:k=li:=hk
    rw[this];exact HH.out.2.2.2.2.2.1.2
   ·rw[hk];exact HH.out.2.2.2.2.2.1.1)
  clear hlast hne
  go_upto_region 6 with fail
  rw[←hws]
  clear hws y2 f2 y11 f11 z4 z5 hw5 hnv t1 y3 y4 z1
  have y9:=HBS.out.cell 9 rfl
  have z4:=HMS.out.cell 4 rfl
  by_cases hAB:m.ao≤r.ls∧r.ls<last
  case neg=>
   have HPQ:Hid (prepare r m=report (prep2 {r with st:=0,idle:=0} m) m.fr∧({r with st:=0,idle:=0}:Rp Op).out.length≤100000):=Lib.hid (by
    refine⟨?_,Z86⟩
    unfold prepare prep1
    rw[if_pos HNV.out]
    simp only
    rw[if_neg (by rw[←HLA.out];exact hAB)])
   have HLB:Hid (c1 b3=1):=Lib.hid HX1.out.2.1
   by_cases hA:m.ao≤r.ls
   ·have t2:(m.ao:Int)≤(r.ls:Int):=by omega
    have t3: ¬(r.ls:Int)<(last:Int):=by omega
    go_quiet (fail)
    have HV:Hid (RV i c1 (ws.drewN nq) p {r with st:=0,idle:=0}):=Lib.hid ⟨HX1.out.2.2.1.lb,lv,hv,xv,sv,uv,HBS.out.drewN nq,HRS.out.keep (Lx.refl _ _) fun _ _ _=>rfl⟩
    have HMB:=Lib.hid (HMS.out.drewN nq)
    have HXW:Hid (Lx w c c1∧Fr (Fi i) c w (ws.drewN nq)):=Lib.hid ⟨HXS.out.1,HXS.out.2.trans HXS.out.1 (Fr.of_below (below_drewN (Below.refl _ _) nq))⟩
    generalize ws.drewN nq=wt at*
    clear y9 z4 t2 t3
    exact Z23
   ·have t2: ¬(m.ao:Int)≤(r.ls:Int):=by omega
    go_quiet (fail)
    have HV:Hid (RV i c1 (ws.drewN nq) p {r with st:=0,idle:=0}):=Lib.hid ⟨HX1.out.2.2.1.lb,lv,hv,xv,sv,uv,HBS.out.drewN nq,HRS.out.keep (Lx.refl _ _) fun _ _ _=>rfl⟩
    have HMB:=Lib.hid (HMS.out.drewN nq)
    have HXW:Hid (Lx w c c1∧Fr (Fi i) c w (ws.drewN nq)):=Lib.hid ⟨HXS.out.1,HXS.out.2.trans HXS.out.1 (Fr.of_below (below_drewN (Below.refl _ _) nq))⟩
    generalize ws.drewN nq=wt at*
    clear y9 z4 t2
    exact Z23
  case pos=>
   have t2:(m.ao:Int)≤(r.ls:Int):=by omega
   have t3:(r.ls:Int)<(last:Int):=by omega
   go_quiet (fail)
   have HBT:=Lib.hid (HBS.out.drewN nq)
   have HMT:=Lib.hid (HMS.out.drewN nq)
   have HRT:Hid (RP i c1 (ws.drewN nq) {r with st:=0,idle:=0} lv hv xv sv uv):=Lib.hid (HRS.out.keep (Lx.refl _ _) fun _ _ _=>rfl)
   have HXT:Hid (Lx w c c1∧Fr (Fi i) c w (ws.drewN nq)):=Lib.hid ⟨HXS.out.1,HXS.out.2.trans HXS.out.1 (Fr.of_below (below_drewN (Below.refl _ _) nq))⟩
   have HST:Hid (SlR (opE li) c1 lo (ws.drewN nq) (.slice oa m.ops.length oc) m.ops):=Lib.hid (HSO.out.keep (opE_ok li) (Lx.refl _ _) fun _ _ _=>rfl)
   have HAB:=Lib.hid hAB
   clear y9 z4 hAB
   generalize ws.drewN nq=wt at*
   have y9:=HBT.out.cell 9 rfl
   obtain⟨la,lc,el⟩:=HRT.out.lg.slice
   subst el
   obtain⟨kk,hkk⟩: ∃kk,kk=r.ls-m.ao:=⟨_,rfl⟩
   have hkl:kk≤m.ops.length:=by have h1:=HAB.out;have h2:=HLA.out;omega
   have hwr:IntKind.i64.wrap ((r.ls:Int)-(m.ao:Int))=(kk:Int):=by
    have h1:=HH.out.2.2.2.1.ls
    have h2:=HH.out.2.2.2.1.lo
    exact Z192
   have HSL:=HST.out.back (opE_ok li) rfl kk hkl
   obtain⟨ob,hob⟩: ∃ob,ob=(if oc=kk then oa else oa.map (·.add (kk*16))):=⟨_,rfl⟩
   rw[show(opE li).sz=16 from rfl,←hob] at HSL
   have hsl: ∀W,(Instr.slice 35 (.slice oa m.ops.length oc) (some (.int .i64 (kk:Int))) none none).run Tryz.prog W= .ok (.slice ob (m.ops.length-kk) (oc-kk)) W:=fun W=>by
    rw[hob]
    exact slice_int W 35 oa m.ops.length oc kk rfl (s:=16) Z27 hkl
   have hdl:(m.ops.drop kk).length=m.ops.length-kk:=List.length_drop
   have HSL':=Lib.hid HSL
   have HKK:=Lib.hid (And.intro hkk (And.intro hdl hkl))
   have HOW:=Lib.hid (fun W (hb:Below wt.heap.size wt W)=>own_any (m.ops.drop kk) (.slice ob (m.ops.length-kk) (oc-kk)) W (HSL'.out.below (opE_ok li) hb) (by have:=HH.out.2.2.2.2.2.2.op;rw[HKK.out.2.1];omega))
   clear HSL hob hkk hdl hkl t2 t3
   go_upto_region 8 with fail
   clear y9
   refine wp_region_K (fun W=>Below wt.heap.size wt W∧W.cell? ⟨p,10,none⟩=some (.slice la r.log.length lc)∧W.cell? ⟨b3,4,none⟩=some (.int .i64 (m.ao:Int))∧W.cell? ⟨b3,5,none⟩=some (.slice oa m.ops.length oc)) 13 Z27 ?_ (fun hHeld1=> ?_)
   ·exact⟨(Below.refl _ _).drew,HBT.out.cell 10 rfl,HMT.out.cell 4 rfl,HMT.out.cell 5 rfl⟩
   refine tkP 0 ?_ (y:=Z189)
   try simp only[ap]
   refine tkK 1 ?_ (y:=Z1)
   try simp only[ap]
   refine tkK 2 ?_ (y:=Z1)
   try simp only[ap]
   refine tkK 3 ?_ (y:=Z1)
   try simp only[ap]
   refine tkK 4 ?_ (y:=Z1)
   try simp only[ap]
   refine tkK 5 ?_ (y:=Z1)
   try simp only[ap]
   refine tkK 6 ?_ (y:=Z1)
   try simp only[ap]
   refine tkK 7 ?_ (y:=Z1)
   try simp only[ap]
   refine tkK 8 ?_ (y:=Z1)
   try simp only[ap]
   refine tkK 9 ?_ (y:=Z1)
   try simp only[ap]
   refine tkK 10 ?_ (y:=Z1)
   try simp only[ap]
   refine tkK 11 ?_ (y:=Z1)
   try simp only[ap]
   refine wpAnyK_ready (rs:= [12]) Z27 Z93 ?_
   refine AllReadyK.cons (o:= ?oi13) ?hi13 (fun K hK=> ?hs13) AllReadyK.nil
   case hi13=>exact Z20
   go_simp
   refine(HOW.out _ (Below.refl _ _).drew).mono ?_
   rintro e w3 ⟨v3,rfl,hnew,hb3⟩
   obtain⟨a3,c3,e3⟩:=hnew.slice
   subst e3
   have HB3:=Lib.hid ((Below.refl wt.heap.size wt).drew.trans hb3)
   have HNW:=Lib.hid hnew
   clear hb3 hnew
   go_wp2_with fail
   refine hK.out _ _ ?_ (fun hHeld2=> ?_)
   ·exact⟨HB3.out,(HBT.out.below HB3.out HBT.out.lt).cell 10 rfl,(HMT.out.below HB3.out HMT.out.lt).cell 4 rfl,(HMT.out.below HB3.out HMT.out.lt).cell 5 rfl⟩
   clear hK
   try simp only[ap]
   refine wpAnyK_lasts [14,15,16] Z27 Z31 Z31 ?_
   simp only[List.filterMap_cons,List.filterMap_nil,List.getElem?_toArray,List.getElem?_cons_succ,List.getElem?_cons_zero]
   have hx3:=HNW.out.row c1 1 1
   have hpt:=HBT.out.lt
   have happ:=RV.app_lg (q:= {r with st:=0,idle:=0}) ((hx3.1 p hpt).trans HX1.out.2.2.1.lb) (HBT.out.below HB3.out hpt) (HRT.out.below hx3.1 HB3.out) hx3.2.sl.ex (by have h1:=HH.out.2.2.2.2.2.2.op;have h2:=HH.out.2.2.2.1.lo;show r.log.length+_≤_;rw[HKK.out.2.1];omega)
   obtain⟨v5,w5,hrun,⟨a5,cp5,e5⟩,y10,f10,c5,hx5,hf5,hv5,-,-⟩:=happ
   obtain⟨n5,hn5⟩: ∃n5,n5=r.log.length+(m.ops.drop kk).length:=⟨_,rfl⟩
   have e5':v5= .slice a5 n5 cp5:=by rw[hn5];exact e5
   clear e5 hn5
   subst e5'
   rw[HKK.out.2.1] at hrun
   have HRUN:=Lib.hid hrun
   have HV5:=Lib.hid hv5
   have HX5:Hid (Lx w c c5∧Fr (Fi i) c w (w5.setCell ⟨p,10,none⟩ (.slice a5 n5 cp5))∧c5 b3=1∧Blk (w5.setCell ⟨p,10,none⟩ (.slice a5 n5 cp5)) b3 37 (msC9 m (.slice oa m.ops.length oc))):=Lib.hid (by
    have hl3:Lx wt c1 c5:=hx3.1.trans hx5 HB3.out.size
    have hf3:Fr (Fi i) c1 wt (w5.setCell ⟨p,10,none⟩ (.slice a5 n5 cp5)):=(Fr.of_below HB3.out).trans hx3.1 (hf5.mono fun l hl=>by unfold Fi;omega)
    have hbl:=HMT.out.lt
    refine⟨HXT.out.1.trans hl3 HXT.out.2.size,HXT.out.2.trans HXT.out.1 hf3,(hl3 b3 hbl).trans HX1.out.2.1,(hf3.block b3 hbl (by rw[HX1.out.2.1];unfold Fi;omega)).trans HMT.out⟩)
   clear hx3 hrun hx5 hf5 hv5 hHeld1 hHeld2 hwr hsl hpt
   refine wpList_execA rfl (execA (.tmp 60) (.tmp 68) 35 rfl rfl rfl HRUN.out) ?_
   try simp only[ap]
   refine wpList_step fun K hK=> ?_
   rw[if_pos Z31]
   go_simp
   refine hK _ _ ?_
   clear hK
   try simp only[ap]
   refine wpList_step fun K hK=> ?_
   rw[if_pos Z31]
   go_simp
   refine hK _ _ ?_
   clear hK
   try simp only[ap]
   refine wpList_step fun K hK=> ?_
   rw[if_pos Z31]
   go_simp
   refine hK _ _ ?_
   clear hK
   try simp only[ap]
   clear y10 f10 HRUN
   go_upto_region 9 with fail
   generalize w5.setCell ⟨p,10,none⟩ (.slice a5 n5 cp5)=w6 at*
   obtain⟨hlp6,lv6,hv6,xv6,sv6,uv6,hb6,hr6⟩:=HV5.out
   have y9:=hb6.cell 9 rfl
   have f9:=hb6.frozen 9
   obtain⟨w7,hw7⟩: ∃w7,w7=w6.setCell ⟨p,9,none⟩ (.int .i64 (last:Int)):=⟨_,rfl⟩
   have hps7:Ps p w6 w7:=by rw[hw7];exact(Ps.refl p w6).set _ _
   have hne:b3≠p:=fun e=>by have h1:=HX5.out.2.2.1;rw[e,hlp6] at h1;omega
   have HX7:Hid (Lx w c c5∧Fr (Fi i) c w w7∧c5 b3=1∧Blk w7 b3 37 (msC9 m (.slice oa m.ops.length oc))):=Lib.hid
    ⟨HX5.out.1,HX5.out.2.1.trans HX5.out.1 (hps7.fr (by rw[hlp6];exact Fi_0 i)),HX5.out.2.2.1,(hps7.heap b3 hne).trans HX5.out.2.2.2⟩
   have HV7:Hid (RV i c5 w7 p {r with st:=0,idle:=0,log:=r.log++m.ops.drop kk,ls:=last}):=Lib.hid (by
    have h1:=hr6.ps hlp6 hps7
    refine⟨hlp6,lv6,hv6,xv6,sv6,uv6,by rw[hw7];exact hb6.set 9 _,⟨h1.lg,h1.hv,h1.of,h1.sv,h1.ou⟩⟩)
   have hli7:LI {r with st:=0,idle:=0,log:=r.log++m.ops.drop kk,ls:=last}:=by
    have h0:=HH.out.2.2.2.1
    have h1:=HAB.out
    have h2:=HLA.out
    have h3:=HKK.out
    have h4:=HH.out.2.2.2.2.2.2.lo h1.1
    have h5:=h0.ls
    have hll:(r.log++m.ops.drop kk).length=r.log.length+(m.ops.length-kk):=by rw[List.length_append,h3.2.1]
    refine⟨h0.n,h0.id,h0.vw,h0.nr,⟨h0.bs.1,h0.bs.2.1,?_,h0.bs.2.2.2⟩,?_,⟨?_,h0.lo.2⟩,h0.hv,h0.sv,h0.ou⟩
    ·show r.cm≤last
     have:=h0.bs.2.2.1
     omega
    ·show last=r.bs+(r.log++m.ops.drop kk).length
     rw[hll];omega
    ·show(r.log++m.ops.drop kk).length≤_
     rw[hll];omega
   have HSV:=Lib.hid (save_any (i:=i) (c:=c5) (r:= {r with st:=0,idle:=0,log:=r.log++m.ops.drop kk,ls:=last}) r.ls p w7 HV7.out hli7 ⟨by show r.bs≤r.ls;have:=HH.out.2.2.2.1.ls;omega,by show r.ls≤last;have:=HAB.out;omega⟩)
   have HPQ:Hid (prepare r m=report (prep2 (save {r with st:=0,idle:=0,log:=r.log++m.ops.drop kk,ls:=last} r.ls) m) m.fr∧(save {r with st:=0,idle:=0,log:=r.log++m.ops.drop kk,ls:=last} r.ls).out.length≤100000):=Lib.hid (by
    refine⟨?_,Z86⟩
    unfold prepare prep1
    rw[if_pos HNV.out]
    simp only
    rw[if_pos (by rw[←HLA.out];exact HAB.out),←HLA.out,←HKK.out.1])
   clear hlp6 hb6 hr6 hps7 hne hli7
   go_upto_region 10 with fail
   rw[←hw7]
   clear hw7 y9 f9
   go_wp2_with fail
   refine HSV.out.mono ?_
   rintro e w8 ⟨rfl,c8,hx8,hf8,hv8⟩
   have hf8':Fr (Fi i) c5 w7 w8:=hf8.mono fun l hl=>by unfold Fi;omega
   have hbl:=HX7.out.2.2.2.lt
   have HXW:Hid (Lx w c c8∧Fr (Fi i) c w w8):=Lib.hid ⟨HX7.out.1.trans hx8 HX7.out.2.1.size,HX7.out.2.1.trans HX7.out.1 hf8'⟩
   have HLB:Hid (c8 b3=1):=Lib.hid ((hx8 b3 hbl).trans HX7.out.2.2.1)
   have HMB:Hid (Blk w8 b3 37 (msC9 m (.slice oa m.ops.length oc))):=Lib.hid ((hf8'.block b3 hbl (by rw[HX7.out.2.2.1];unfold Fi;omega)).trans HX7.out.2.2.2)
   have HV:=Lib.hid hv8
   clear hx8 hf8 hf8' hv8 hbl
   go_upto_region 11 with fail
   obtain⟨hlq,lvq,hvq,xvq,svq,uvq,hbq,hrq⟩:=HV.out
   have y7:=hbq.cell 7 rfl
   have f7:=hbq.frozen 7
   have y9:=hbq.cell 9 rfl
   have z6:=HMB.out.cell 6 rfl
   obtain⟨q,hq⟩: ∃q,q=save {r with st:=0,idle:=0,log:=r.log++m.ops.drop kk,ls:=last} r.ls:=⟨_,rfl⟩
   rw[←hq] at hbq hrq y7 y9
   have HPQ2:Hid (prepare r m=report (prep2 q m) m.fr∧q.out.length≤100000):=Lib.hid (by rw[hq];exact HPQ.out)
   obtain⟨k1,hk1⟩: ∃k1,k1=min m.cm q.ls:=⟨_,rfl⟩
   obtain⟨k2,hk2⟩: ∃k2,k2=max q.cm k1:=⟨_,rfl⟩
   have hmn:min (m.cm:Int) (q.ls:Int)=(k1:Int):=by omega
   have hmx:max (q.cm:Int) (k1:Int)=(k2:Int):=by omega
   have hne:b3≠p:=fun e=>by have h1:=HLB.out;rw[e,hlq] at h1;omega
   have HQ:=Lib.hid (And.intro hlq (And.intro hbq (And.intro hrq (And.intro hne (And.intro hk1 hk2)))))
   clear hlq hbq hrq hne hq hk1 hk2
   go_region
   obtain⟨W11,hW11⟩: ∃W11,W11=(w8.setCell ⟨p,7,none⟩ (.int .i64 (k2:Int))).drew:=⟨_,rfl⟩
   have HB11:Hid (Blk W11 p 94 (rpC {q with cm:=k2} lvq hvq xvq svq uvq)):=Lib.hid (by rw[hW11];exact(HQ.out.2.1.set 7 _).drew)
   have HP11:Hid (Ps p w8 W11):=Lib.hid (by rw[hW11];exact((Ps.refl p w8).set _ _).drew)
   have HM11:Hid (Blk W11 b3 37 (msC9 m (.slice oa m.ops.length oc))):=Lib.hid ((HP11.out.heap b3 HQ.out.2.2.2.1).trans HMB.out)
   rw[←hW11]
   clear hW11 y7 f7 y9 z6 hmn hmx
   have y7:=HB11.out.cell 7 rfl
   have y8:=HB11.out.cell 8 rfl
   have f8:=HB11.out.frozen 8
   have z7:=HM11.out.cell 7 rfl
   obtain⟨k3,hk3⟩: ∃k3,k3=min m.sb k2:=⟨_,rfl⟩
   obtain⟨k4,hk4⟩: ∃k4,k4=max q.sb k3:=⟨_,rfl⟩
   have hmn:min (m.sb:Int) (k2:Int)=(k3:Int):=by omega
   have hmx:max (q.sb:Int) (k3:Int)=(k4:Int):=by omega
   have HK4:Hid (prep2 q m= {q with cm:=k2,sb:=k4}):=Lib.hid (by unfold prep2;rw[hk4,hk3,HQ.out.2.2.2.2.2,HQ.out.2.2.2.2.1])
   clear hk3 hk4
   go_upto_region 12 with fail
   go_region
   obtain⟨W12,hW12⟩: ∃W12,W12=(W11.setCell ⟨p,8,none⟩ (.int .i64 (k4:Int))).drew:=⟨_,rfl⟩
   have HB12:Hid (Blk W12 p 94 (rpC {q with cm:=k2,sb:=k4} lvq hvq xvq svq uvq)):=Lib.hid (by rw[hW12];exact(HB11.out.set 8 _).drew)
   have HP12:Hid (Ps p W11 W12):=Lib.hid (by rw[hW12];exact((Ps.refl p W11).set _ _).drew)
   have HM12:Hid (Blk W12 b3 37 (msC9 m (.slice oa m.ops.length oc))):=Lib.hid ((HP12.out.heap b3 HQ.out.2.2.2.1).trans HM11.out)
   rw[←hW12]
   clear hW12 y7 y8 f8 z7 hmn hmx
   have z1:=HM12.out.cell 1 rfl
   have HRP:=Lib.hid (report_any (i:=i) (c:=c8) (r:= {q with cm:=k2,sb:=k4}) m.fr p W12 ⟨HQ.out.1,lvq,hvq,xvq,svq,uvq,HB12.out,by
    have h1:=(HQ.out.2.2.1.ps HQ.out.1 HP11.out).ps HQ.out.1 HP12.out
    exact⟨h1.lg,h1.hv,h1.of,h1.sv,h1.ou⟩⟩ HPQ2.out.2)
   go_wp2_with fail
   refine HRP.out.mono ?_
   rintro e w9 ⟨rfl,hm9⟩
   have HD:Hid (Mt (Fi i) i c w w9 p (prepare r m)):=Lib.hid (by
    have h1:Fr (Fi i) c w W12:=HXW.out.2.trans HXW.out.1 ((HP11.out.fr (by rw[HQ.out.1];exact Fi_0 i)).trans (Lx.refl _ _) (HP12.out.fr (by rw[HQ.out.1];exact Fi_0 i)))
    rw[HPQ2.out.1,HK4.out]
    exact Mt.trans HXW.out.1 h1 (hm9.mono fun l=>Gi_Fi))
   clear hm9
   exact Z36
end Go.Proofs.YtdmjegelcdghlaaGreat.Vw
