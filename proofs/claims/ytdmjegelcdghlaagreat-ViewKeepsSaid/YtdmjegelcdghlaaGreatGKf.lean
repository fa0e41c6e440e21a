/-
  Chapter 22: it changes to a view; time goes on.
-/
import Derived.Test.YtdmjegelcdghlaaGreatGKe
set_option maxRecDepth 100000
set_option maxHeartbeats 64000000
set_option linter.unusedVariables false
set_option linter.unusedSimpArgs false
namespace Go.Proofs.YtdmjegelcdghlaaGreat
theorem Z135 {p:Prop}(h:p:=by rw[List.length_range];have:=HL1.out.1.n;omega):p:=h
end Go.Proofs.YtdmjegelcdghlaaGreat
namespace Go.Proofs.YtdmjegelcdghlaaGreat.Vw
open Go.RowKit Go.Maps
theorem sndL_len2 (m:Ms Op)(r:Rp Op)(ks:List Nat): ∃o,sndL m r ks= {r with out:=o} ∧o.length≤r.out.length+ks.length:=by
 rw[sndL_eq]
 exact Z98
theorem OB.outs {r:Rp Op}(h:OB r)(o:List (Sd Op)):OB {r with out:=o}:=h
theorem OB.mine {r:Rp Op}(h:LI r):OB (mine r):=by
 intro k o ho
 have hTM:TM=1099511627776:=rfl
 have ho':(if prm r=r.id then upd (fun _=>none) r.id (some ⟨r.nr,r.bs,r.cm,r.log⟩) else fun _=>none) k=some o:=ho
 have h1:=h.vw
 have h2:=h.nr
 have h3:=h.bs
 have h4:=h.ls
 have h5:=h.lo
 split at ho'
 ·by_cases e:k=r.id
  ·subst e
   have e2:upd (fun _=>none) r.id (some (⟨r.nr,r.bs,r.cm,r.log⟩:Of Op)) r.id=some ⟨r.nr,r.bs,r.cm,r.log⟩:=by unfold upd;rw[if_pos rfl]
   rw[e2] at ho'
   cases ho'
   refine⟨by show r.nr≤_;omega,by show r.bs≤r.ls;omega,by show r.cm≤_;omega,?_,?_,by show r.log.length≤_;omega⟩
   ·show r.cm≤r.bs+r.log.length
    omega
   ·show r.bs+r.log.length≤r.bs+1000000
    omega
  ·have e2:upd (fun _=>none) r.id (some (⟨r.nr,r.bs,r.cm,r.log⟩:Of Op)) k=none:=by unfold upd;rw[if_neg e]
   rw[e2] at ho'
   cases ho'
 ·cases ho'
theorem LI.turn {r:Rp Op}(h:LI r){v:Nat}(hv:r.vw≤v)(ht:v≤TM)(hs:r.saves.length+1≤50000):LI (turn r v):=
 ⟨h.n,h.id,ht,Nat.le_trans h.nr hv,h.bs,h.ls,h.lo,h.hv,by show(r.saves++ [_]).length≤_;rw[List.length_append];exact hs,h.ou⟩
theorem OB.turn {r:Rp Op}(h:LI r){v:Nat}(hv:r.vw≤v)(ht:v≤TM):OB (turn r v):=
 OB.mine (r:= {r with vw:=v,st:=1,idle:=0}) ⟨h.n,h.id,ht,Nat.le_trans h.nr hv,h.bs,h.ls,h.lo,h.hv,h.sv,h.ou⟩
theorem turn_len (r:Rp Op)(v:Nat):(turn r v).out=r.out∧(turn r v).saves.length=r.saves.length+1∧(turn r v).n=r.n∧(turn r v).log=r.log:=⟨rfl,by show(r.saves++ [_]).length=_;rw[List.length_append];rfl,rfl,rfl⟩
theorem offer_len (r:Rp Op): ∃o,offer r= {r with out:=o} ∧o.length≤r.out.length+1:=by
 unfold offer
 rw[snd1_eq]
 refine⟨_,rfl,?_⟩
 rw[List.length_append]
 unfold msTo
 rw[List.length_map]
 have:=List.length_filter_le (fun k=>decide (k≠r.id)) [prm r]
 simp only[List.length_cons,List.length_nil] at this
 omega
theorem change_any {i:Nat}{c:Lb}{r:Rp Op}(v:Nat)(p:Nat)(w:World)(h:RV i c w p r)(hl:LI r)(hv:r.vw≤v)(ht:v≤TM)(hs:r.saves.length≤48000∧r.out.length≤48000):
 Calls Tryz.prog 43 #[.pointer (some ⟨p,0,none⟩),.int .i64 (v:Int)] w fun e w'=>e= .returned (.tuple #[])∧Mt (Fi i) i c w w' p (change r v):=by
 have HH:=Lib.hid (And.intro hl (And.intro hs (And.intro (hl.turn hv ht Z11) (OB.turn hl hv ht))))
 have HT:=Lib.hid (turn_any v p w h hl)
 clear h hl hv ht hs
 go_enter Tryz.func43,Tryz.ntmps43
 go_wp2_with fail
 refine HT.out.mono ?_
 rintro e w1 ⟨rfl,c1,hx1,hf1,hv1⟩
 have HX1:=Lib.hid (And.intro hx1 (And.intro hf1 hv1))
 obtain⟨r1,hr1⟩: ∃r1,r1=turn r v:=⟨_,rfl⟩
 have HR1:=Lib.hid hr1
 have HL1:Hid (LI r1∧OB r1∧r1.saves.length≤48001∧r1.out.length≤48000):=Lib.hid (by
  rw[hr1]
  obtain⟨h1,h2,_,_⟩:=turn_len r v
  exact⟨HH.out.2.2.1,HH.out.2.2.2,by rw[h2];have:=HH.out.2.1.1;omega,by rw[h1];exact HH.out.2.1.2⟩)
 rw[←hr1] at HX1
 clear hx1 hf1 hv1 hr1 HT
 obtain⟨_,_,_,_,_,_,hbp1,_⟩:=HX1.out.2.2
 have HAL:=Lib.hid (all_any p w1 hbp1 (by have:=HL1.out.1.n;omega))
 clear hbp1
 go_wp2_with fail
 refine HAL.out.mono ?_
 rintro e w2 ⟨v2,rfl,ho2,hb2⟩
 have HX2:Hid (Lx w c (c1.ext w1.heap.size)∧Fr (Fi i) c w w2∧RV i (c1.ext w1.heap.size) w2 p r1∧SlR ntE (c1.ext w1.heap.size) 1 w2 v2 (List.range r1.n)):=Lib.hid ⟨HX1.out.1.trans (c1.ext_lx w1) HX1.out.2.1.size,HX1.out.2.1.trans HX1.out.1 (Fr.of_below hb2),HX1.out.2.2.below (c1.ext_lx w1) hb2,all_sl (B:=0) ho2⟩
 obtain⟨a2,q2,e2⟩:=(Rd.of_own ho2).slice
 subst e2
 have HS:=Lib.hid (send_any (i:=i) (c:=c1.ext w1.heap.size) (r:=r1) (mKd 3) 0 0 (List.range r1.n) (.slice none 0 0) (.slice a2 r1.n q2) p w2 HX2.out.2.2.1 (SlR.nil _ _ 1 _) (Gi_1 i) (Nat.zero_le _) HX2.out.2.2.2 (Gi_1 i) Z135 (by have:=HL1.out.2.2.2;omega))
 unfold mKd msV at HS
 simp only at HS
 clear ho2 hb2 HAL
 go_wp2_with fail
 refine HS.out.mono ?_
 rintro e w3 ⟨rfl,c3,hx3,hf3,hv3⟩
 obtain⟨r3,hr3⟩: ∃r3,r3=sndL (mKd 3) r1 (List.range r1.n):=⟨_,rfl⟩
 have hv3':RV i c3 w3 p r3:=by rw[hr3];exact hv3
 have HX3:Hid (Lx w c c3∧Fr (Fi i) c w w3∧RV i c3 w3 p r3):=Lib.hid ⟨HX2.out.1.trans hx3 HX2.out.2.1.size,HX2.out.2.1.trans HX2.out.1 (hf3.mono fun l=>Gi_Fi),hv3'⟩
 have HR3:=Lib.hid hr3
 have HL3:Hid (LI r3∧OB r3∧r3.saves.length≤48001∧r3.out.length≤48100):=Lib.hid (by
  rw[hr3]
  obtain⟨o,h1,h2⟩:=sndL_len2 (mKd 3) r1 (List.range r1.n)
  rw[List.length_range] at h2
  rw[h1]
  have h3:=HL1.out.2.2.2
  have h4:=HL1.out.1.n
  exact⟨HL1.out.1.outs o Z11,HL1.out.2.1.outs o,HL1.out.2.2.1,by show o.length≤_;omega⟩)
 clear hx3 hf3 hv3 hv3' hr3 HS
 have HO:=Lib.hid (offer_any (i:=i) (c:=c3) (r:=r3) p w3 HX3.out.2.2 HL3.out.1.n HL3.out.1.lo.1 (by have:=HL3.out.2.2.2;omega))
 go_wp2_with fail
 refine HO.out.mono ?_
 rintro e w4 ⟨rfl,c4,hx4,hf4,hv4⟩
 obtain⟨r4,hr4⟩: ∃r4,r4=offer r3:=⟨_,rfl⟩
 rw[←hr4] at hv4
 have HX4:Hid (Lx w c c4∧Fr (Fi i) c w w4∧RV i c4 w4 p r4):=Lib.hid ⟨HX3.out.1.trans hx4 HX3.out.2.1.size,HX3.out.2.1.trans HX3.out.1 (hf4.mono fun l=>Gi_Fi),hv4⟩
 have HR4:=Lib.hid hr4
 have HL4:Hid (LI r4∧OB r4∧r4.saves.length≤49000∧r4.out.length≤49000):=Lib.hid (by
  rw[hr4]
  obtain⟨o,h1,h2⟩:=offer_len r3
  rw[h1]
  have h3:=HL3.out.2.2.2
  exact⟨HL3.out.1.outs o Z11,HL3.out.2.1.outs o,by have h5:=HL3.out.2.2.1;show r3.saves.length≤_;omega,by show o.length≤_;omega⟩)
 clear hx4 hf4 hv4 hr4 HO
 have HBG:=Lib.hid (begin_any (i:=i) (c:=c4) (r:=r4) p w4 HX4.out.2.2 HL4.out.1 HL4.out.2.1 HL4.out.2.2)
 go_wp2_with fail
 refine HBG.out.mono ?_
 rintro e w5 ⟨rfl,hm5⟩
 have HD:Hid (Mt (Fi i) i c w w5 p (change r v)):=Lib.hid (by
  have h1:change r v=begin_ r4:=by
   rw[HR4.out,HR3.out,HR1.out]
   rfl
  rw[h1]
  exact Mt.trans HX4.out.1 HX4.out.2.1 hm5)
 clear hm5
 go_wp2_with fail
 refine bodyPost_end (results_none rfl _ _ _) rfl ?_
 exact⟨rfl,HD.out⟩
end Go.Proofs.YtdmjegelcdghlaaGreat.Vw
namespace Go.Proofs.YtdmjegelcdghlaaGreat
theorem Z161 {p:Prop}(h:p:=by
 have HV3:=Lib.hid (HV2.out.2.drewN nq)
 have HF3:Hid (Fr (Fi i) c w (w2.drewN nq)):=Lib.hid (HV2.out.1.trans (Lx.refl _ _) (Fr.of_below (below_drewN (Below.refl _ _) nq)))
 have y2':(w2.drewN nq).cell? ⟨p,2,none⟩=some (.int .i64 (r.st:Int)):=y2
 clear y0 y3 y2 y11 hw2
 generalize w2.drewN nq=w3 at*
 by_cases hst:r.st=1
 case neg=>
  exact Z53
 case pos=>
  have t3:(r.st:Int)=1:=by omega
  have HD0:Hid (tick r=offer (sndL (mKd 3) r1 (List.range r1.n))):=Lib.hid (by rw[HTK.out,if_pos (by rw[HL1.out.2.2.2.2.2.1];exact hst)])
  clear hst
  obtain⟨_,_,_,_,_,_,hbp3,_⟩:=HV3.out
  have HAL:=Lib.hid (all_any p w3 hbp3 (by have:=HL1.out.1.n;omega))
  clear hbp3
  go_wp2_with fail
  refine HAL.out.mono ?_
  rintro e w4 ⟨v4,rfl,ho4,hb4⟩
  have HX4:Hid (Lx w c (c.ext w3.heap.size)∧Fr (Fi i) c w w4∧RV i (c.ext w3.heap.size) w4 p r1∧SlR ntE (c.ext w3.heap.size) 1 w4 v4 (List.range r1.n)):=Lib.hid ⟨fun k hk=>c.ext_lx w3 k (Nat.lt_of_lt_of_le hk HF3.out.size),HF3.out.trans (Lx.refl _ _) (Fr.of_below hb4),HV3.out.below (c.ext_lx w3) hb4,all_sl (B:=0) ho4⟩
  obtain⟨a4,q4,e4⟩:=(Rd.of_own ho4).slice
  subst e4
  have HS:=Lib.hid (send_any (i:=i) (c:=c.ext w3.heap.size) (r:=r1) (mKd 3) 0 0 (List.range r1.n) (.slice none 0 0) (.slice a4 r1.n q4) p w4 HX4.out.2.2.1 (SlR.nil _ _ 1 _) (Gi_1 i) (Nat.zero_le _) HX4.out.2.2.2 (Gi_1 i) Z135 (by have:=HL1.out.2.2.1;omega))
  unfold mKd msV at HS
  simp only at HS
  clear ho4 hb4 HAL
  go_wp2_with fail
  refine HS.out.mono ?_
  rintro e w5 ⟨rfl,c5,hx5,hf5,hv5⟩
  obtain⟨r5,hr5⟩: ∃r5,r5=sndL (mKd 3) r1 (List.range r1.n):=⟨_,rfl⟩
  have hv5':RV i c5 w5 p r5:=by rw[hr5];exact hv5
  have HX5:Hid (Lx w c c5∧Fr (Fi i) c w w5∧RV i c5 w5 p r5):=Lib.hid ⟨HX4.out.1.trans hx5 HX4.out.2.1.size,HX4.out.2.1.trans HX4.out.1 (hf5.mono fun l=>Gi_Fi),hv5'⟩
  have HR5:=Lib.hid hr5
  have HL5:Hid (LI r5∧r5.out.length≤48100):=Lib.hid (by
   rw[hr5]
   obtain⟨o,h1,h2⟩:=sndL_len2 (mKd 3) r1 (List.range r1.n)
   rw[List.length_range] at h2
   rw[h1]
   have h3:=HL1.out.2.2.1
   have h4:=HL1.out.1.n
   exact⟨HL1.out.1.outs o Z11,by show o.length≤_;omega⟩)
  clear hx5 hf5 hv5 hv5' hr5 HS
  have HO:=Lib.hid (offer_any (i:=i) (c:=c5) (r:=r5) p w5 HX5.out.2.2 HL5.out.1.n HL5.out.1.lo.1 (by have:=HL5.out.2;omega))
  go_wp2_with fail
  refine HO.out.mono ?_
  rintro e w6 ⟨rfl,hm6⟩
  have HD:Hid (Mt (Fi i) i c w w6 p (tick r)):=Lib.hid (by
   rw[HD0.out,←HR5.out]
   exact Mt.trans HX5.out.1 HX5.out.2.1 (hm6.mono fun l=>Gi_Fi))
  clear hm6
  exact Z36):p:=h
theorem Z53 {p:Prop}(h:p:=by
 have t3: ¬(r.st:Int)=1:=by omega
 have HD0:Hid (tick r=r1):=Lib.hid (by rw[HTK.out,if_neg (by rw[HL1.out.2.2.2.2.2.1];exact hst)])
 clear hst
 go_wp2_with fail
 refine bodyPost_end (results_none rfl _ _ _) rfl ?_
 refine⟨rfl,?_⟩
 rw[HD0.out]
 exact⟨c,Lx.refl _ _,HF3.out,HV3.out⟩):p:=h
end Go.Proofs.YtdmjegelcdghlaaGreat
namespace Go.Proofs.YtdmjegelcdghlaaGreat.Vw
open Go.RowKit Go.Maps
theorem LI.idle {r:Rp Op}(h:LI r)(k:Nat):LI {r with idle:=k}:=⟨h.n,h.id,h.vw,h.nr,h.bs,h.ls,h.lo,h.hv,h.sv,h.ou⟩
theorem tick_any {i:Nat}{c:Lb}{r:Rp Op}(p:Nat)(w:World)(h:RV i c w p r)(hl:LI r)(hb:leads r=true→HB r)(hid:r.idle≤TM)(hs:r.saves.length≤48000∧r.out.length≤48000):
 Calls Tryz.prog 10 #[.pointer (some ⟨p,0,none⟩)] w fun e w'=>e= .returned (.tuple #[])∧Mt (Fi i) i c w w' p (tick r):=by
 have HH:=Lib.hid (And.intro h (And.intro hl (And.intro hb (And.intro hid hs))))
 have HL:=Lib.hid (leads_any p w h hl.n)
 clear h hl hb hid hs
 go_enter Tryz.func10,Tryz.ntmps10
 go_wp2_with fail
 refine HL.out.mono ?_
 rintro e w1 ⟨rfl,k1,hk1⟩
 have HV1:Hid (Fr (Fi i) c w w1∧RV i c w1 p r):=Lib.hid (by rw[hk1];exact⟨Fr.of_below (below_drewN (Below.refl _ _) k1),HH.out.1.drewN k1⟩)
 clear hk1 HL
 cases hld:leads r
 case true=>
  have HT:=Lib.hid (tell_any (i:=i) (c:=c) (r:=r) p w1 HV1.out.2 HH.out.2.1 (HH.out.2.2.1 hld))
  have HD0:Hid (tick r=tell r):=Lib.hid (by unfold tick;rw[if_pos hld])
  clear hld
  go_wp2_with fail
  refine HT.out.mono ?_
  rintro e w2 ⟨rfl,hm2⟩
  have HD:Hid (Mt (Fi i) i c w w2 p (tick r)):=Lib.hid (by rw[HD0.out];exact Mt.trans (Lx.refl _ _) HV1.out.1 (hm2.mono fun l=>Gi_Fi))
  clear hm2
  exact Z88
 case false=>
  obtain⟨hlp,lv,hv,xv,sv,uv,hbp,hrp⟩:=HV1.out.2
  obtain⟨d1,hd1⟩: ∃d1,d1=r.idle+1:=⟨_,rfl⟩
  have hw1:IntKind.i64.wrap ((r.idle:Int)+1)=(d1:Int):=by
   have h1:=HH.out.2.2.2.1
   exact Z192
  have y11:=hbp.cell 11 rfl
  have f11:=hbp.frozen 11
  have HP1:=Lib.hid (And.intro hlp (And.intro hbp hrp))
  have HLD:=Lib.hid hld
  have HDD:=Lib.hid hd1
  clear hlp hbp hrp hld hd1
  go_upto_region 4 with fail
  go_upto_region 5 with fail
  obtain⟨w2,hw2⟩: ∃w2,w2=w1.setCell ⟨p,11,none⟩ (.int .i64 (d1:Int)):=⟨_,rfl⟩
  have hps:Ps p w1 w2:=by rw[hw2];exact(Ps.refl p w1).set _ _
  obtain⟨r1,hr1⟩: ∃r1,r1= {r with idle:=r.idle+1}:=⟨_,rfl⟩
  have HV2:Hid (Fr (Fi i) c w w2∧RV i c w2 p r1):=Lib.hid (by
   have h1:=HP1.out.2.2.ps HP1.out.1 hps
   refine⟨HV1.out.1.trans (Lx.refl _ _) (hps.fr (by rw[HP1.out.1];exact Fi_0 i)),?_⟩
   rw[hr1]
   refine⟨HP1.out.1,lv,hv,xv,sv,uv,?_,⟨h1.lg,h1.hv,h1.of,h1.sv,h1.ou⟩⟩
   rw[hw2,HDD.out]
   exact HP1.out.2.1.set 11 _)
  have HR1:=Lib.hid hr1
  have HL1:Hid (LI r1∧r1.saves.length≤48000∧r1.out.length≤48000∧r1.id=r.id∧r1.vw=r.vw∧r1.st=r.st∧r1.idle=d1):=Lib.hid (by rw[hr1];exact⟨HH.out.2.1.idle _,HH.out.2.2.2.2.1,HH.out.2.2.2.2.2,rfl,rfl,rfl,HDD.out.symm⟩)
  rw[←hw2]
  clear hw2 hps hr1 hw1 y11 f11
  obtain⟨hlp2,lv2,hv2,xv2,sv2,uv2,hbp2,hrp2⟩:=HV2.out.2
  have HP2:=Lib.hid (And.intro hlp2 (And.intro hbp2 hrp2))
  have y0:w2.cell? ⟨p,0,none⟩=some (.int .i64 (r.id:Int)):=by rw[←HL1.out.2.2.2.1];exact hbp2.cell 0 rfl
  have y3:w2.cell? ⟨p,3,none⟩=some (.int .i64 (r.vw:Int)):=by rw[←HL1.out.2.2.2.2.1];exact hbp2.cell 3 rfl
  have y2:w2.cell? ⟨p,2,none⟩=some (.int .i64 (r.st:Int)):=by rw[←HL1.out.2.2.2.2.2.1];exact hbp2.cell 2 rfl
  have y11:w2.cell? ⟨p,11,none⟩=some (.int .i64 (d1:Int)):=by rw[←HL1.out.2.2.2.2.2.2];exact hbp2.cell 11 rfl
  clear hlp2 hbp2 hrp2
  obtain⟨d2,hd2⟩: ∃d2,d2=4+r.id:=⟨_,rfl⟩
  have hw2:IntKind.i64.wrap (4+(r.id:Int))=(d2:Int):=by
   have h1:=HH.out.2.1.id
   have h2:=HH.out.2.1.n
   exact Z197
  have HD2:=Lib.hid hd2
  clear hd2
  by_cases hbig:d2≤d1∧r.vw<1099511627776
  case pos=>
   have t1:(d2:Int)≤(d1:Int):=by omega
   have t2:(r.vw:Int)<1099511627776:=by omega
   obtain⟨v1,hv1⟩: ∃v1,v1=r.vw+1:=⟨_,rfl⟩
   have hw3:IntKind.i64.wrap ((r.vw:Int)+1)=(v1:Int):=by rw[IntWalk.i64_in _ Z11];omega
   have HBIG:=Lib.hid hbig
   have HVN:=Lib.hid hv1
   clear hbig hv1
   go_quiet (fail)
   have HV3:=Lib.hid (HV2.out.2.drewN nq)
   have HC:=Lib.hid (change_any (i:=i) (c:=c) (r:=r1) v1 p (w2.drewN nq) HV3.out HL1.out.1 (by rw[HL1.out.2.2.2.2.1,HVN.out];exact Nat.le_succ _) (by rw[HVN.out];have h1:=HBIG.out.2;have h3:TM=1099511627776:=rfl;omega) ⟨HL1.out.2.1,HL1.out.2.2.1⟩)
   have y3':(w2.drewN nq).cell? ⟨p,3,none⟩=some (.int .i64 (r.vw:Int)):=y3
   clear y0 y3 y2 y11 hw2 t1
   go_wp2_with fail
   refine HC.out.mono ?_
   rintro e w4 ⟨rfl,hm4⟩
   have HD:Hid (Mt (Fi i) i c w w4 p (tick r)):=Lib.hid (by
    have h1:tick r=change r1 v1:=by
     unfold tick
     rw[if_neg (by rw[HLD.out];simp)]
     simp only
     rw[if_pos (by
      have h1:=HBIG.out
      have h2:=HD2.out
      have h3:=HDD.out
      have h4:TM=1099511627776:=rfl
      refine⟨?_,?_⟩
      ·show 4+r.id≤r.idle+1
       omega
      ·show r.vw<TM
       omega),HR1.out,HVN.out]
    rw[h1]
    exact Mt.trans (Lx.refl _ _) (HV2.out.1.trans (Lx.refl _ _) (Fr.of_below (below_drewN (Below.refl _ _) nq))) hm4)
   clear hm4
   exact Z36
  case neg=>
   have HBIG:=Lib.hid hbig
   have HTK:Hid (tick r=if r1.st=1 then offer (sndL (mKd 3) r1 (List.range r1.n)) else r1):=Lib.hid (by
    unfold tick
    rw[if_neg (by rw[HLD.out];simp)]
    simp only
    rw[if_neg (by
     intro h
     have h1:=HBIG.out
     have h2:=HD2.out
     have h3:=HDD.out
     have h4:TM=1099511627776:=rfl
     refine h1 ⟨?_,?_⟩
     ·have h5:4+r.id≤r.idle+1:=h.1
      omega
     ·have h5:r.vw<TM:=h.2
      omega),HR1.out])
   clear hbig
   by_cases hA:d2≤d1
   ·have t1:(d2:Int)≤(d1:Int):=by omega
    have t2: ¬(r.vw:Int)<1099511627776:=by have:=HBIG.out;omega
    clear hA
    go_quiet (fail)
    clear t1 t2
    exact Z161
   ·have t1: ¬(d2:Int)≤(d1:Int):=by omega
    clear hA
    go_quiet (fail)
    clear t1
    exact Z161
open Go.RowKit Go.Maps
structure Kz where
 vw:Int
 nr:Int
 bs:Int
 cm:Int
 ops:List Op
structure Sz where
 lg:Bool
 vw:Int
 ao:Int
 ops:List Op
 sb:Int
def Kt.z (k:Kt Op):Kz:=⟨k.vw,k.nr,k.bs,k.cm,k.ops⟩
def Sv.z (x:Sv Op):Sz:=⟨x.lg,x.vw,x.ao,x.ops,x.sb⟩
def kok (k:Kz):Prop:=0≤k.nr∧k.nr≤k.vw∧k.vw≤1099511627776∧0≤k.bs∧k.bs≤1099511627776∧k.bs≤k.cm∧k.cm≤k.bs+k.ops.length∧k.ops.all mayO=true
instance (k:Kz):Decidable (kok k):=by unfold kok;infer_instance
def r0z (id n:Nat)(k:Kz):Rp Op:= {newR id n with vw:=k.vw.toNat,nr:=k.nr.toNat,bs:=k.bs.toNat,cm:=k.cm.toNat,td:=k.cm.toNat,ls:=k.bs.toNat+k.ops.length,log:=k.ops}
def ldKz (id n:Nat)(k:Kz):Option (Rp Op):=if kok k then some (r0z id n k) else none
def lay2 (r:Rp Op)(x:Sz):Rp Op:=
 let r1:=lay {r with vw:=x.vw.toNat,nr:=x.vw.toNat} x.ao.toNat x.ops
 {r1 with sb:=max r1.sb (min x.sb.toNat r1.ls)}
def sok (r:Rp Op)(x:Sz):Prop:=(r.vw:Int)≤x.vw∧x.vw≤1099511627776∧x.ops.all mayO=true
def sok0 (x:Sz):Prop:=x.ao=0∧x.sb=0∧x.ops= []
def sok1 (r:Rp Op)(x:Sz):Prop:=(r.bs:Int)≤x.ao∧x.ao≤r.ls∧((max r.cm r.sb:Nat):Int)≤x.ao+x.ops.length∧0≤x.sb∧x.sb≤1099511627776
open Classical in
noncomputable def ldSz (r:Rp Op) (x:Sz):Option (Rp Op):=
 if sok r x then
  if x.lg=false then(if sok0 x then some {r with vw:=x.vw.toNat} else none)
  else if sok1 r x then some (lay2 r x) else none
 else none
noncomputable def ldLz (r:Rp Op):List Sz→Option (Rp Op)
 | []=>some r
 |x::l=>match ldSz r x with
  |none=>none
  |some r1=>ldLz r1 l
noncomputable def loadZ (id n:Nat) (k:Kz) (l:List Sz):Option (Rp Op):=
 match ldKz id n k with
 |none=>none
 |some r=>match ldLz r l with
  |none=>none
  |some r1=>some (ldE r1)
theorem ldKz_n (id n:Nat)(k:Kt Op):ldKz id n k.z=ldK mayO id n k:=by
 unfold ldKz ldK
 have hTM:TM=1099511627776:=rfl
 by_cases h:kok k.z
 ·rw[if_pos h]
  obtain⟨h1,h2,h3,h4,h5,h6,h7,h8⟩:=h
  have h2':(k.nr:Int)≤(k.vw:Int):=h2
  have h3':(k.vw:Int)≤1099511627776:=h3
  have h5':(k.bs:Int)≤1099511627776:=h5
  have h6':(k.bs:Int)≤(k.cm:Int):=h6
  have h7':(k.cm:Int)≤(k.bs:Int)+(k.ops.length:Int):=h7
  rw[if_pos ⟨Z11,Z11,Z11,Z11,Z11,h8⟩]
  rfl
 ·rw[if_neg h,if_neg]
  rintro⟨h1,h2,h3,h4,h5,h6⟩
  refine h ⟨by show(0:Int)≤(k.nr:Int);omega,by show(k.nr:Int)≤(k.vw:Int);omega,by show(k.vw:Int)≤_;omega,by show(0:Int)≤(k.bs:Int);omega,by show(k.bs:Int)≤_;omega,by show(k.bs:Int)≤(k.cm:Int);omega,by show(k.cm:Int)≤(k.bs:Int)+(k.ops.length:Int);omega,h6⟩
theorem ldSz_n (r:Rp Op)(x:Sv Op):ldSz r x.z=ldS mayO r x:=by
 unfold ldSz ldS
 have hTM:TM=1099511627776:=rfl
 by_cases h:sok r x.z
 ·rw[if_pos h]
  obtain⟨h1,h2,h3⟩:=h
  have h1':(r.vw:Int)≤(x.vw:Int):=h1
  have h2':(x.vw:Int)≤1099511627776:=h2
  rw[if_pos (show r.vw≤x.vw∧x.vw≤TM∧x.ops.all mayO=true from⟨Z11,Z11,h3⟩)]
  have e:x.z.lg=x.lg:=rfl
  rw[e]
  by_cases hl:x.lg=false
  ·rw[if_pos hl,if_pos hl]
   by_cases h0:sok0 x.z
   ·rw[if_pos h0]
    obtain⟨g1,g2,g3⟩:=h0
    have g1':(x.ao:Int)=0:=g1
    have g2':(x.sb:Int)=0:=g2
    rw[if_pos (show x.ao=0∧x.sb=0∧x.ops= [] from⟨Z11,Z11,g3⟩)]
    rfl
   ·rw[if_neg h0,if_neg]
    rintro⟨g1,g2,g3⟩
    exact h0 ⟨by show(x.ao:Int)=0;omega,by show(x.sb:Int)=0;omega,g3⟩
  ·rw[if_neg hl,if_neg hl]
   by_cases h0:sok1 r x.z
   ·rw[if_pos h0]
    obtain⟨g1,g2,g3,g4,g5⟩:=h0
    have g1':(r.bs:Int)≤(x.ao:Int):=g1
    have g2':(x.ao:Int)≤(r.ls:Int):=g2
    have g3':((max r.cm r.sb:Nat):Int)≤(x.ao:Int)+(x.ops.length:Int):=g3
    have g5':(x.sb:Int)≤1099511627776:=g5
    rw[if_pos (show r.bs≤x.ao∧x.ao≤r.ls∧max r.cm r.sb≤x.ao+x.ops.length∧x.sb≤TM from⟨Z11,Z11,Z11,Z11⟩)]
    rfl
   ·rw[if_neg h0,if_neg]
    rintro⟨g1,g2,g3,g4⟩
    exact h0 ⟨by show(r.bs:Int)≤(x.ao:Int);omega,by show(x.ao:Int)≤(r.ls:Int);omega,by show((max r.cm r.sb:Nat):Int)≤(x.ao:Int)+(x.ops.length:Int);omega,by show(0:Int)≤(x.sb:Int);omega,by show(x.sb:Int)≤_;omega⟩
 ·rw[if_neg h,if_neg]
  rintro⟨g1,g2,g3⟩
  exact h ⟨by show(r.vw:Int)≤(x.vw:Int);omega,by show(x.vw:Int)≤_;omega,g3⟩
theorem ldLz_n: ∀(l:List (Sv Op)) (r:Rp Op),ldLz r (l.map Sv.z)=ldL mayO r l:=by
 intro l
 induction l with
 |nil=>intro r;rfl
 |cons x l ih=>
  intro r
  rw[List.map_cons]
  unfold ldLz ldL
  rw[ldSz_n]
  cases ldS mayO r x with
  |none=>rfl
  |some r1=>exact ih r1
theorem loadZ_n (id n:Nat)(k:Kt Op)(l:List (Sv Op)):loadZ id n k.z (l.map Sv.z)=load mayO id n k l:=by
 unfold loadZ load
 rw[ldKz_n]
 cases ldK mayO id n k with
 |none=>rfl
 |some r=>
  dsimp only
  rw[ldLz_n]
  cases ldL mayO r l<;>rfl
structure SzI (li:Nat)(c:Lb)(W:World)(u:Value)(x:Sz):Prop where
 s:SlR (opE li) c li W u x.ops
 n:x.ops.length≤1000000
def szE (li:Nat):Ek Sz:=⟨5,51,fun x u=> [.bool x.lg,.int .i64 x.vw,.int .i64 x.ao,u,.int .i64 x.sb],fun c W u x=>SzI li c W u x,fun k=>k=li⟩
theorem szE_ok (li:Nat):(szE li).Ok:=by
 refine⟨by show 0<5;decide,fun _ _=>rfl,fun c W a u h x hx=> ?_,fun c c' W W' u a h hc hb=>⟨h.s.keep (opE_ok li) hc fun k hk hl=>hb k hk Z71,h.n⟩⟩
 obtain⟨ua,uc,e⟩:=h.s.slice
 subst e
 simp only[szE,List.mem_cons,List.not_mem_nil,or_false] at hx
 rcases hx with rfl|rfl|rfl|rfl|rfl<;>rfl
theorem sz_flat (li:Nat): ∀(l:List (Sv Op)) (vs:List Value),flat (szE li) (l.map Sv.z) vs=flat (svE li) l vs
 | [],vs=>by simp[flat]
 |x::l,[]=>by simp[flat]
 |x::l,u::vs=>by
  have ih:=sz_flat li l vs
  unfold flat at ih⊢
  rw[List.map_cons,List.zipWith_cons_cons,List.flatten_cons,List.zipWith_cons_cons,List.flatten_cons,ih]
  rfl
theorem SlR.sz {li lo:Nat}{c:Lb}{W:World}{v:Value}{l:List (Sv Op)}(h:SlR (svE li) c lo W v l)(hn: ∀x∈l,x.ops.length≤1000000):SlR (szE li) c lo W v (l.map Sv.z):=by
 obtain⟨⟨vs,h1,h2⟩,h3⟩:=h
 refine⟨⟨vs,⟨by rw[List.length_map];exact h1.1,fun i a u ha hu=> ?_⟩,?_⟩,by rw[List.length_map];exact h3⟩
 ·rw[List.getElem?_map] at ha
  obtain⟨x,hx,rfl⟩:=Option.map_eq_some_iff.1 ha
  have h4:SvI li c W u x:=h1.2 i x u hx hu
  exact⟨h4.s,hn x (List.mem_of_getElem? hx)⟩
 ·rw[List.length_map,sz_flat];exact h2
def LdR (i:Nat)(c:Lb)(w:World)(o:Option (Rp Op))(e:Ending)(w':World):Prop:=match o with
 |none=>e= .returned (.tuple #[.pointer none,.int .i64 1])∧Fr (Fi i) c w w'∧ ∃c',Lx w c c'
 |some r=> ∃p,e= .returned (.tuple #[.pointer (some ⟨p,0,none⟩),.int .i64 0])∧w.heap.size≤p∧Mt (Fi i) i c w w' p r
def totS (l:List Sz):Nat:=(l.map fun x=>x.ops.length).sum
end Go.Proofs.YtdmjegelcdghlaaGreat.Vw
