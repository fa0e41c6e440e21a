/-
  Chapter 22: begun: a view, its own or a later one.
-/
import Derived.Test.YtdmjegelcdghlaaGreatGDr
set_option maxRecDepth 100000
set_option maxHeartbeats 64000000
set_option linter.unusedVariables false
set_option linter.unusedSimpArgs false
namespace Go.Proofs.YtdmjegelcdghlaaGreat
theorem Z69 {p:Prop}(h:p:=by
 go_quiet (fail)
 go_wp2_with fail
 refine bodyPost_ret (results_none rfl _ _ _) rfl ?_
 refine⟨rfl,?_⟩
 rw[HD.out]
 exact⟨c1,HX1.out.1,HXq.out.1.trans HX1.out.1 (Fr.of_below (below_drewN (Below.refl _ _) _)),HXq.out.2.1.drewN _⟩):p:=h
end Go.Proofs.YtdmjegelcdghlaaGreat
namespace Go.Proofs.YtdmjegelcdghlaaGreat.Vw
open Go.RowKit Go.Maps
theorem layL_len (r:Rp Op)(a:Nat)(ops:List Op)(ha:a≤r.ls)(hls:r.ls=r.bs+r.log.length)(hb:r.bs≤a+ops.length):(layL r a ops).length=a+ops.length-r.bs:=by
 unfold layL
 rw[List.length_append,List.length_take,List.length_drop]
 omega
theorem begun_any {i lo li:Nat}{c:Lb}{r:Rp Op}(m:Ms Op)(ov:Value)(p:Nat)(w:World)(h:RV i c w p r)(hl:LI r)(hm:SlR (opE li) c lo w ov m.ops)(hlo: ¬Fi i lo∧ ¬Fi i li)(hb:MB r m)(hcm:m.cm≤m.ao+m.ops.length∧m.vw≤TM):
 Calls Tryz.prog 57 #[.pointer (some ⟨p,0,none⟩),msV m.kd m.fr m.vw m.nr m.ao ov m.cm m.sb m.ls] w fun e w'=>e= .returned (.tuple #[])∧Mt (Fi i) i c w w' p (begunM r m):=by
 obtain⟨hlp,lv,hv,xv,sv,uv,hbp,hrp⟩:=h
 obtain⟨oa,oc,eo⟩:=hm.slice
 subst eo
 have hpl:=hbp.lt
 have HH:=Lib.hid (And.intro hlp (And.intro hbp (And.intro hrp (And.intro hl (And.intro hm (And.intro hlo (And.intro hb hcm)))))))
 unfold msV
 clear hlp hbp hrp hl hm hlo hb hcm
 go_enter Tryz.func57,Tryz.ntmps57
 go_upto_region 1 with fail
 obtain⟨w1,hw1⟩: ∃w1,w1=w.alloc (.cells #[.int .i64 (m.kd:Int),.int .i64 (m.fr:Int),.int .i64 (m.vw:Int),.int .i64 (m.nr:Int),.int .i64 (m.ao:Int),.slice oa m.ops.length oc,.int .i64 (m.cm:Int),.int .i64 (m.sb:Int),.int .i64 (m.ls:Int)] 37):=⟨_,rfl⟩
 obtain⟨b3,hb3⟩: ∃b3,b3=w.heap.size:=⟨_,rfl⟩
 have HB1:Hid (Below w.heap.size w w1):=Lib.hid Z41
 have HM1:Hid (Blk w1 b3 37 (msC9 m (.slice oa m.ops.length oc))):=Lib.hid (by rw[hw1,hb3];exact Blk.new w 37 _)
 obtain⟨c1,hc1⟩: ∃c1,c1=c.ext w.heap.size:=⟨_,rfl⟩
 have HX1:Hid (Lx w c c1∧c1 b3=1∧RV i c1 w1 p r∧SlR (opE li) c1 lo w1 (.slice oa m.ops.length oc) m.ops):=Lib.hid (by
  have h1:Lx w c c1:=by rw[hc1];exact c.ext_lx w
  refine⟨h1,Z143,(RV.mk HH.out.1 ⟨lv,hv,xv,sv,uv,HH.out.2.1,HH.out.2.2.1⟩:RV i c w p r).below h1 HB1.out,(HH.out.2.2.2.2.1.lx (opE_ok li) h1).below (opE_ok li) HB1.out⟩)
 have HP1:=Lib.hid (HH.out.2.1.below HB1.out hpl)
 rw[←hw1,←hb3]
 clear hw1 hb3 hc1
 have y4:=HP1.out.cell 4 rfl
 have z2:=HM1.out.cell 2 rfl
 go_upto_region 2 with fail
 by_cases hnv:r.nr=m.vw
 case pos=>
  have t1:(r.nr:Int)=(m.vw:Int):=by omega
  go_quiet (fail)
  clear t1 y4 z2
  have HPq:=Lib.hid (HP1.out.drewN nq)
  have y2:=HPq.out.cell 2 rfl
  have f2:=HPq.out.frozen 2
  have y11:=HPq.out.cell 11 rfl
  have f11:=HPq.out.frozen 11
  have hne:b3≠p:=fun e=>by have h1:=HX1.out.2.1;rw[e,HX1.out.2.2.1.lb] at h1;omega
  obtain⟨ws,hws⟩: ∃ws,ws=((w1.drewN nq).setCell ⟨p,2,none⟩ (.int .i64 0)).setCell ⟨p,11,none⟩ (.int .i64 0):=⟨_,rfl⟩
  have HPS:Hid (Ps p (w1.drewN nq) ws):=Lib.hid (by rw[hws];exact((Ps.refl p _).set _ _).set _ _)
  have HBS:Hid (Blk ws p 94 (rpC {r with st:=0,idle:=0} lv hv xv sv uv)):=Lib.hid (by rw[hws];exact(HPq.out.set 2 _).set 11 _)
  have HMS:Hid (Blk ws b3 37 (msC9 m (.slice oa m.ops.length oc))):=Lib.hid ((HPS.out.heap b3 hne).trans (HM1.out.drewN nq))
  have HRS:Hid (RP i c1 ws {r with st:=0,idle:=0} lv hv xv sv uv):=Lib.hid (by
   have h0:RP i c1 (w1.drewN nq) r lv hv xv sv uv:=HH.out.2.2.1.below HX1.out.1 (below_drewN HB1.out nq)
   have h1:=h0.ps HX1.out.2.2.1.lb HPS.out
   refine⟨h1.lg,h1.hv,?_,h1.sv,h1.ou⟩
   rcases h1.of with⟨h2,h3,h4⟩|h2
   ·exact Z149
   ·exact .inr h2)
  have HXS:Hid (Lx w c c1∧Fr (Fi i) c w ws):=Lib.hid ⟨HX1.out.1,(Fr.of_below (below_drewN HB1.out nq)).trans HX1.out.1 (HPS.out.fr (by rw[HX1.out.2.2.1.lb];exact Fi_0 i))⟩
  have HNV:=Lib.hid hnv
  clear hne hnv
  go_upto_region 4 with fail
  rw[←hws]
  clear hws y2 f2 y11 f11
  have z1:=HMS.out.cell 1 rfl
  have HRP:=Lib.hid (report_any (i:=i) (c:=c1) (r:= {r with st:=0,idle:=0}) m.fr p ws ⟨HX1.out.2.2.1.lb,lv,hv,xv,sv,uv,HBS.out,HRS.out⟩ Z86)
  go_wp2_with fail
  refine HRP.out.mono ?_
  rintro e w9 ⟨rfl,hm9⟩
  have HD:Hid (Mt (Fi i) i c w w9 p (begunM r m)):=Lib.hid (by
   have h1:begunM r m=report {r with st:=0,idle:=0} m.fr:=by unfold begunM;rw[if_pos HNV.out]
   rw[h1]
   exact Mt.trans HXS.out.1 HXS.out.2 (hm9.mono fun l=>Gi_Fi))
  clear hm9
  exact Z88
 case neg=>
  have t1: ¬(r.nr:Int)=(m.vw:Int):=by omega
  have HNV:=Lib.hid hnv
  go_quiet (fail)
  obtain⟨wq,hwq⟩: ∃wq,wq=w1.drewN nq:=⟨_,rfl⟩
  have HPq:Hid (Blk wq p 94 (rpC r lv hv xv sv uv)):=Lib.hid (by rw[hwq];exact HP1.out.drewN nq)
  have HMq:Hid (Blk wq b3 37 (msC9 m (.slice oa m.ops.length oc))):=Lib.hid (by rw[hwq];exact HM1.out.drewN nq)
  have HXq:Hid (Fr (Fi i) c w wq∧RV i c1 wq p r∧SlR (opE li) c1 lo wq (.slice oa m.ops.length oc) m.ops):=Lib.hid (by rw[hwq];exact⟨Fr.of_below (below_drewN HB1.out nq),HX1.out.2.2.1.drewN nq,HX1.out.2.2.2.keep (opE_ok li) (Lx.refl _ _) fun _ _ _=>rfl⟩)
  rw[←hwq]
  clear hwq hnv y4 z2
  have y9:=HPq.out.cell 9 rfl
  have y7:=HPq.out.cell 7 rfl
  have z4:=HMq.out.cell 4 rfl
  have z5:=HMq.out.cell 5 rfl
  obtain⟨last,hlast⟩: ∃last,last=m.ao+m.ops.length:=⟨_,rfl⟩
  have hw5:IntKind.i64.wrap ((m.ao:Int)+(m.ops.length:Int))=(last:Int):=by
   have h1:=HH.out.2.2.2.2.2.2.1.op
   have h2:=HH.out.2.2.2.2.2.2.1.ao
   exact Z192
  have HLA:=Lib.hid hlast
  clear hlast
  go_upto_region 5 with fail
  clear t1
  by_cases hA:r.ls<m.ao
  ·have t2:(r.ls:Int)<(m.ao:Int):=by omega
   have HD:Hid (begunM r m=r):=Lib.hid (by unfold begunM;rw[if_neg HNV.out,if_pos (.inl hA)])
   exact Z69
  by_cases hB:last<r.cm
  ·have t2: ¬(r.ls:Int)<(m.ao:Int):=by omega
   have t3:(last:Int)<(r.cm:Int):=by omega
   have HD:Hid (begunM r m=r):=Lib.hid (by unfold begunM;rw[if_neg HNV.out,if_pos (.inr (by rw[←HLA.out];exact hB))])
   exact Z69
  have t2: ¬(r.ls:Int)<(m.ao:Int):=by omega
  have t3: ¬(last:Int)<(r.cm:Int):=by omega
  have HAB:=Lib.hid (And.intro hA hB)
  go_quiet (fail)
  have HMr:=Lib.hid (HMq.out.drewN nq)
  have HXr:Hid (Fr (Fi i) c w (wq.drewN nq)∧RV i c1 (wq.drewN nq) p r∧SlR (opE li) c1 lo (wq.drewN nq) (.slice oa m.ops.length oc) m.ops):=Lib.hid ⟨HXq.out.1.trans HX1.out.1 (Fr.of_below (below_drewN (Below.refl _ _) _)),HXq.out.2.1.drewN nq,HXq.out.2.2.keep (opE_ok li) (Lx.refl _ _) fun _ _ _=>rfl⟩
  clear y9 y7 z4 z5 hw5 t2 t3 hA hB
  generalize wq.drewN nq=wr at*
  have z4:=HMr.out.cell 4 rfl
  have z5:=HMr.out.cell 5 rfl
  have HLY:=Lib.hid (lay_any (i:=i) (lo:=lo) (c:=c1) (r:=r) m.ao m.ops (.slice oa m.ops.length oc) p wr HXr.out.2.1 HXr.out.2.2 (fun e=>HH.out.2.2.2.2.2.1.1 (by rw[e];exact Fi_0 i)) (by have:=HAB.out.1;omega) HH.out.2.2.2.1.ls ⟨HH.out.2.2.2.1.lo.1,HH.out.2.2.2.1.lo.2,HH.out.2.2.2.2.2.2.1.op,by have:=HH.out.2.2.2.2.2.2.1.ao;omega⟩)
  go_upto_region 6 with fail
  go_wp2_with fail
  refine HLY.out.mono ?_
  rintro e w2 ⟨rfl,c2,hx2,hf2,hv2⟩
  have hbl:=HMr.out.lt
  have HM2:Hid (Blk w2 b3 37 (msC9 m (.slice oa m.ops.length oc))):=Lib.hid ((hf2.block b3 hbl (by rw[HX1.out.2.1];unfold Fi;omega)).trans HMr.out)
  have HX2:Hid (Lx w c c2∧Fr (Fi i) c w w2∧c2 b3=1):=Lib.hid ⟨HX1.out.1.trans hx2 HXr.out.1.size,HXr.out.1.trans HX1.out.1 hf2,(hx2 b3 hbl).trans HX1.out.2.1⟩
  obtain⟨hlp2,lv2,hv2',xv2,sv2,uv2,hbp2,hrp2⟩:=hv2
  have HP2:=Lib.hid (And.intro hlp2 (And.intro hbp2 hrp2))
  have y3:=hbp2.cell 3 rfl
  have f3:=hbp2.frozen 3
  have y4:=hbp2.cell 4 rfl
  have f4:=hbp2.frozen 4
  have y2:=hbp2.cell 2 rfl
  have f2:=hbp2.frozen 2
  have y11:=hbp2.cell 11 rfl
  have f11:=hbp2.frozen 11
  have y13:=hbp2.cell 13 rfl
  have f13:=hbp2.frozen 13
  have z2:=HM2.out.cell 2 rfl
  clear z4 z5 hx2 hf2 hlp2 hbp2 hrp2 hbl
  go_upto_region 7 with fail
  go_region
  obtain⟨w7,hw7⟩: ∃w7,w7=(((((w2.setCell ⟨p,3,none⟩ (.int .i64 (m.vw:Int))).setCell ⟨p,4,none⟩ (.int .i64 (m.vw:Int))).setCell ⟨p,2,none⟩ (.int .i64 0)).setCell ⟨p,11,none⟩ (.int .i64 0)).setCell ⟨p,13,none⟩ (.map none)).drew:=⟨_,rfl⟩
  have HPS7:Hid (Ps p w2 w7):=Lib.hid (by rw[hw7];exact((((((Ps.refl p w2).set _ _).set _ _).set _ _).set _ _).set _ _).drew)
  have HP7:Hid (Blk w7 p 94 (rpC {lay r m.ao m.ops with vw:=m.vw,nr:=m.vw,st:=0,idle:=0,offs:=fun _=>none} lv2 hv2' (.map none) sv2 uv2)):=Lib.hid (by rw[hw7];exact(((((HP2.out.2.1.set 3 _).set 4 _).set 2 _).set 11 _).set 13 _).drew)
  have hne:b3≠p:=fun e=>by have h1:=HX2.out.2.2;rw[e,HP2.out.1] at h1;omega
  have HNE:=Lib.hid hne
  have HM7:Hid (Blk w7 b3 37 (msC9 m (.slice oa m.ops.length oc))):=Lib.hid ((HPS7.out.heap b3 hne).trans HM2.out)
  rw[←hw7]
  clear hw7 hne y3 f3 y4 f4 y2 f2 y11 f11 y13 f13 z2
  have y7:w7.cell? ⟨p,7,none⟩=some (.int .i64 (r.cm:Int)):=HP7.out.cell 7 rfl
  have f7:=HP7.out.frozen 7
  have z6:=HM7.out.cell 6 rfl
  obtain⟨k,hk⟩: ∃k,k=max r.cm m.cm:=⟨_,rfl⟩
  have hmx:max (r.cm:Int) (m.cm:Int)=(k:Int):=by omega
  have HK:=Lib.hid hk
  clear hk
  go_upto_region 8 with fail
  go_region
  obtain⟨w8,hw8⟩: ∃w8,w8=(w7.setCell ⟨p,7,none⟩ (.int .i64 (k:Int))).drew:=⟨_,rfl⟩
  have HPS8:Hid (Ps p w7 w8):=Lib.hid (by rw[hw8];exact((Ps.refl p w7).set _ _).drew)
  have HM8:Hid (Blk w8 b3 37 (msC9 m (.slice oa m.ops.length oc))):=Lib.hid ((HPS8.out.heap b3 HNE.out).trans HM7.out)
  have hq8:begunM1 r m= {lay r m.ao m.ops with vw:=m.vw,nr:=m.vw,st:=0,idle:=0,offs:=fun _=>none,cm:=k}:=by rw[HK.out];rfl
  have HV8:Hid (RV i c2 w8 p (begunM1 r m)):=Lib.hid (by
   rw[hq8]
   have h1:=(HP2.out.2.2.ps HP2.out.1 HPS7.out).ps HP2.out.1 HPS8.out
   refine⟨HP2.out.1,lv2,hv2',.map none,sv2,uv2,by rw[hw8];exact(HP7.out.set 7 _).drew,⟨h1.lg,h1.hv,.inl ⟨rfl,by show(0:Nat)≠1;omega,fun _=>rfl⟩,h1.sv,h1.ou⟩⟩)
  have hF8:Fr (Fi i) c2 w2 w8:=(HPS7.out.fr (by rw[HP2.out.1];exact Fi_0 i)).trans (Lx.refl _ _) (HPS8.out.fr (by rw[HP2.out.1];exact Fi_0 i))
  have HX8:Hid (Fr (Fi i) c w w8):=Lib.hid (HX2.out.2.1.trans HX2.out.1 hF8)
  have hli8:LI (begunM1 r m):=by
   have h0:=HH.out.2.2.2.1
   have h1:=HAB.out
   have h2:=HLA.out
   have h4:=HH.out.2.2.2.2.2.2.1.lo Z11
   have h5:=h0.ls
   have h6:=layL_len r m.ao m.ops Z11 h5 (by have:=h0.bs;omega)
   have h7:=HK.out
   have h8:=HH.out.2.2.2.2.2.2.2.1
   rw[hq8]
   refine⟨h0.n,h0.id,HH.out.2.2.2.2.2.2.2.2,Nat.le_refl _,⟨h0.bs.1,?_,?_,?_⟩,rfl,⟨?_,h0.lo.2⟩,h0.hv,h0.sv,h0.ou⟩
   ·show r.td≤k
    have:=h0.bs;omega
   ·show k≤r.bs+(layL r m.ao m.ops).length
    have:=h0.bs;omega
   ·show r.sb≤k
    have:=h0.bs;omega
   ·show(layL r m.ao m.ops).length≤_
    omega
  have HSV:=Lib.hid (save_any (i:=i) (c:=c2) (r:=begunM1 r m) (max m.ao r.bs) p w8 HV8.out hli8 (by
   have h0:=HH.out.2.2.2.1
   have h1:=HAB.out
   have h2:=HLA.out
   have h5:=h0.ls
   have h6:=layL_len r m.ao m.ops Z11 h5 (by have:=h0.bs;omega)
   refine⟨?_,?_⟩
   ·show r.bs≤_
    omega
   ·show _≤r.bs+(layL r m.ao m.ops).length
    have:=h0.bs;omega))
  rw[←hw8]
  clear hw8 y7 f7 z6 hmx hq8 hF8 hli8
  go_upto_region 9 with fail
  go_wp2_with fail
  refine HSV.out.mono ?_
  rintro e w9 ⟨rfl,c9,hx9,hf9,hv9⟩
  have hf9':Fr (Fi i) c2 w8 w9:=hf9.mono fun l hl=>by unfold Fi;omega
  have hbl:=HM8.out.lt
  have HX9:Hid (Lx w c c9∧Fr (Fi i) c w w9):=Lib.hid ⟨HX2.out.1.trans hx9 HX8.out.size,HX8.out.trans HX2.out.1 hf9'⟩
  have hm9:Blk w9 b3 37 (msC9 m (.slice oa m.ops.length oc)):=(hf9'.block b3 hbl (by rw[HX2.out.2.2];unfold Fi;omega)).trans HM8.out
  have z1:=hm9.cell 1 rfl
  clear hm9
  have HRP:=Lib.hid (report_any (i:=i) (c:=c9) (r:=save (begunM1 r m) (max m.ao r.bs)) m.fr p w9 hv9 Z86)
  clear hx9 hf9 hf9' hv9 hbl
  go_upto_region 10 with fail
  go_wp2_with fail
  refine HRP.out.mono ?_
  rintro e w10 ⟨rfl,hm10⟩
  have HD:Hid (Mt (Fi i) i c w w10 p (begunM r m)):=Lib.hid (by
   have h1:begunM r m=report (save (begunM1 r m) (max m.ao r.bs)) m.fr:=by
    unfold begunM
    rw[if_neg HNV.out,if_neg (by rw[←HLA.out];exact fun h=>h.elim HAB.out.1 HAB.out.2)]
   rw[h1]
   exact Mt.trans HX9.out.1 HX9.out.2 (hm10.mono fun l=>Gi_Fi))
  clear hm10
  exact Z36
end Go.Proofs.YtdmjegelcdghlaaGreat.Vw
