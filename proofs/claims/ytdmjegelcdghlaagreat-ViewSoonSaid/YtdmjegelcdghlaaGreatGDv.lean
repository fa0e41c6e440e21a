/-
  Chapter 22: ready: the ops that are sure.
-/
import Derived.Test.YtdmjegelcdghlaaGreatGGen
import Derived.Test.YtdmjegelcdghlaaGreatGDs
import Derived.Test.YtdmjegelcdghlaaGreatGDr
set_option maxRecDepth 100000
set_option maxHeartbeats 64000000
set_option linter.unusedVariables false
set_option linter.unusedSimpArgs false
namespace Go.Proofs.YtdmjegelcdghlaaGreat.Vw
open Go.RowKit Go.Maps
theorem slice_lh (w:World)(t:TypeId)(a:Option Addr)(n cap k m:Nat)(ht:Tryz.prog.underlying t=some (.slice (Tryz.prog.elem t))){s:Nat}(hs:(sizeOf (Tryz.prog.elem t)).run Tryz.prog w= .ok s w)(h:k≤m)(h2:m≤cap):
 (Instr.slice t (.slice a n cap) (some (.int .i64 (k:Int))) (some (.int .i64 (m:Int))) none).run Tryz.prog w= .ok (.slice (if cap=k then a else a.map (·.add (k*s))) (m-k) (cap-k)) w:=by
 rw[run_slice_lh w t a n cap ht .i64 .i64 k m Z11 Z11 Z11,hs]
 simp only[Result.andThen,sliced,Int.toNat_natCast]
theorem SlR.capLe {c:Lb}{lo:Nat}{W:World}{a:Option Addr}{n cap:Nat}{l:List Op}(h:SlR (opE 1) c lo W (.slice a n cap) l)(hn:n=l.length)(h0:0<n):n≤cap:=by
 obtain⟨vs,_,h2⟩:=h.ex
 rcases h2.2 with⟨⟨_,_,e⟩,h1⟩|⟨b,o,c',e,hle,_⟩
 ·omega
 ·cases e;omega
theorem ready_any {i:Nat}{c:Lb}{r:Rp Op}(p:Nat)(w:World)(h:RV i c w p r)(hl:LI r):
 Calls Tryz.prog 19 #[.pointer (some ⟨p,0,none⟩)] w fun e w'=> ∃v,e= .returned v∧ ∃c',Lx w c c'∧Fr (Fi i) c w w'∧RV i c' w' p (told r)∧SlR (opE 1) c' 1 w' v (ready r):=by
 obtain⟨hlp,lv,hv,xv,sv,uv,hbp,hrp⟩:=h
 obtain⟨la,lc,el⟩:=hrp.lg.slice
 subst el
 have hpl:=hbp.lt
 obtain⟨k,hk⟩: ∃k,k=r.td-r.bs:=⟨_,rfl⟩
 obtain⟨m,hm⟩: ∃m,m=r.cm-r.bs:=⟨_,rfl⟩
 have hbs:=hl.bs
 have hls:=hl.ls
 have hlo:=hl.lo
 have hTM:TM=1099511627776:=rfl
 have hkm:k≤m∧m≤r.log.length:=by omega
 have hw1:IntKind.i64.wrap ((r.td:Int)-(r.bs:Int))=(k:Int):=by rw[IntWalk.i64_in _ Z11];omega
 have hw2:IntKind.i64.wrap ((r.cm:Int)-(r.bs:Int))=(m:Int):=by rw[IntWalk.i64_in _ Z11];omega
 have hcap:m≤lc:=by
  rcases Nat.eq_zero_or_pos r.log.length with h0|h0
  ·omega
  ·have:=hrp.lg.sl.capLe rfl h0;omega
 obtain⟨oa,hoa⟩: ∃oa,oa=(if lc=k then la else la.map (·.add (k*16))):=⟨_,rfl⟩
 have hsl: ∀W,(Instr.slice 35 (.slice la r.log.length lc) (some (.int .i64 (k:Int))) (some (.int .i64 (m:Int))) none).run Tryz.prog W= .ok (.slice oa (m-k) (lc-k)) W:=fun W=>by
  rw[hoa]
  exact slice_lh W 35 la r.log.length lc k m rfl (s:=16) Z27 hkm.1 hcap
 have htl:(r.log.take m).length=m:=by rw[List.length_take];omega
 have HSL:SlR (opE 1) c (11+10*i) w (.slice oa (m-k) (lc-k)) ((r.log.take m).drop k):=by
  have h1:=(hrp.lg.sl.front (opE_ok 1) rfl m hkm.2).back (opE_ok 1) htl.symm k Z11
  rw[show(opE 1).sz=16 from rfl,←hoa] at h1
  exact h1
 have hrd:ready r=(r.log.take m).drop k:=by
  unfold ready
  rw[←hk,List.drop_take,show m-k=r.cm-r.td from Z11]
 have hdl:((r.log.take m).drop k).length=m-k:=by rw[List.length_drop,htl]
 rw[hrd]
 have HOW:=Lib.hid (fun W (hb:Below w.heap.size w W)=>own_any ((r.log.take m).drop k) (.slice oa (m-k) (lc-k)) W (HSL.below (opE_ok 1) hb) (by rw[hdl];omega))
 have HH:=Lib.hid (And.intro hlp (And.intro hbp (And.intro hrp (And.intro hl hdl))))
 have HP:=Lib.hid hbp
 clear hlp hbp hrp hl hk hm hbs hls hlo hTM hkm hcap hoa HSL hrd htl hdl
 go_enter Tryz.func19,Tryz.ntmps19
 go_upto_region 4 with fail
 refine wp_region_K (fun W=>Below w.heap.size w W∧W.cell? ⟨p,10,none⟩=some (.slice la r.log.length lc)∧W.cell? ⟨p,5,none⟩=some (.int .i64 (r.bs:Int))∧W.cell? ⟨p,6,none⟩=some (.int .i64 (r.td:Int))∧W.cell? ⟨p,7,none⟩=some (.int .i64 (r.cm:Int))) 23 Z27 ?_ (fun hHeld1=> ?_)
 ·exact⟨(Below.refl _ _).drew,HP.out.cell 10 rfl,HP.out.cell 5 rfl,HP.out.cell 6 rfl,HP.out.cell 7 rfl⟩
 refine tkK 0 ?_ (y:=Z1)
 try simp only[ap]
 refine tkK 1 ?_ (y:=Z1)
 try simp only[ap]
 refine tkK 2 ?_ (y:=Z1)
 try simp only[ap]
 refine tkK 3 ?_ (y:=Z1)
 try simp only[ap]
 refine tkK 4 ?_ (y:=Z1)
 try simp only[ap]
 refine tkK 5 ?_ (y:=Z1)
 try simp only[ap]
 refine tkK 6 ?_ (y:=Z1)
 try simp only[ap]
 refine tkK 7 ?_ (y:=Z1)
 try simp only[ap]
 refine tkK 8 ?_ (y:=Z1)
 try simp only[ap]
 refine tkK 9 ?_ (y:=Z1)
 try simp only[ap]
 refine tkK 10 ?_ (y:=Z1)
 try simp only[ap]
 refine tkK 11 ?_ (y:=Z1)
 try simp only[ap]
 refine tkK 12 ?_ (y:=Z1)
 try simp only[ap]
 refine tkK 13 ?_ (y:=Z1)
 try simp only[ap]
 refine tkK 14 ?_ (y:=Z1)
 try simp only[ap]
 refine tkK 15 ?_ (y:=Z1)
 try simp only[ap]
 refine tkK 16 ?_ (y:=Z1)
 try simp only[ap]
 refine tkK 17 ?_ (y:=Z1)
 try simp only[ap]
 refine tkK 18 ?_ (y:=Z1)
 try simp only[ap]
 refine tkK 19 ?_ (y:=Z1)
 try simp only[ap]
 refine tkK 20 ?_ (y:=Z1)
 try simp only[ap]
 refine tkK 21 ?_ (y:=Z1)
 try simp only[ap]
 refine tkK 22 ?_ (y:=Z1)
 try simp only[ap]
 refine wpAnyK_lasts [24] Z27 Z31 Z31 ?_
 simp only[List.filterMap_cons,List.filterMap_nil,List.getElem?_toArray,List.getElem?_cons_succ,List.getElem?_cons_zero]
 refine wpList_step fun K hK0=> ?_
 have hK:=Lib.hid hK0
 clear hK0
 rw[if_pos Z31]
 go_simp
 refine(HOW.out _ (Below.refl _ _).drew).mono ?_
 rintro e w1 ⟨v1,rfl,hnew,hb1⟩
 obtain⟨a1,q1,e1⟩:=hnew.slice
 rw[HH.out.2.2.2.2] at e1
 subst e1
 have HB1:=Lib.hid ((Below.refl w.heap.size w).drew.trans hb1)
 have HNW:=Lib.hid hnew
 clear hb1 hnew
 go_wp2_with fail
 refine hK.out _ _ ?_
 clear hK
 try simp only[ap]
 refine wpList_step fun K hK=> ?_
 rw[if_pos Z31]
 go_simp
 refine hK _ _ ?_
 clear hK
 try simp only[ap]
 clear hHeld1 hw1 hw2 hsl HOW
 obtain⟨c1,hc1⟩: ∃c1,c1=c.new w.heap.size (.slice a1 (m-k) q1) 1 1:=⟨_,rfl⟩
 have HX1:Hid (Lx w c c1∧SlR (opE 1) c1 1 w1 (.slice a1 (m-k) q1) ((r.log.take m).drop k)∧RP i c1 w1 r (.slice la r.log.length lc) hv xv sv uv∧c1 p=10+10*i):=Lib.hid (by
  have h1:=HNW.out.row c 1 1
  have h2:Lx w c c1:=by rw[hc1];exact h1.1
  refine⟨h2,by rw[hc1];exact h1.2.sl,HH.out.2.2.1.below h2 HB1.out,(h2 p hpl).trans HH.out.1⟩)
 have HP1:=Lib.hid (HP.out.below HB1.out hpl)
 have y6:=HP1.out.cell 6 rfl
 have f6:=HP1.out.frozen 6
 have y7:=HP1.out.cell 7 rfl
 obtain⟨w2,hw2⟩: ∃w2,w2=w1.setCell ⟨p,6,none⟩ (.int .i64 (r.cm:Int)):=⟨_,rfl⟩
 have HPS2:Hid (Ps p w1 w2):=Lib.hid (by rw[hw2];exact(Ps.refl p w1).set _ _)
 have HP2:Hid (Blk w2 p 94 (rpC {r with td:=r.cm} (.slice la r.log.length lc) hv xv sv uv)):=Lib.hid (by rw[hw2];exact HP1.out.set 6 _)
 clear hc1
 go_wp2_with fail
 go_upto_region 6 with fail
 rw[←hw2]
 clear hw2 y6 f6 y7
 have y6:=HP2.out.cell 6 rfl
 have y8:=HP2.out.cell 8 rfl
 obtain⟨to,hto⟩: ∃to,to=min r.sb r.cm:=⟨_,rfl⟩
 have hmn:min (r.sb:Int) (r.cm:Int)=(to:Int):=by omega
 have HTO:=Lib.hid hto
 clear hto
 go_region
 obtain⟨w3,hw3⟩: ∃w3,w3=w2.drew:=⟨_,rfl⟩
 have HP3:Hid (Blk w3 p 94 (rpC {r with td:=r.cm} (.slice la r.log.length lc) hv xv sv uv)):=Lib.hid (by rw[hw3];exact HP2.out.drew)
 have HPS3:Hid (Ps p w1 w3):=Lib.hid (by rw[hw3];exact HPS2.out.drew)
 try rw[←hw3]
 clear y6 y8 hmn
 have y5:w3.cell? ⟨p,5,none⟩=some (.int .i64 (r.bs:Int)):=HP3.out.cell 5 rfl
 have HF3:Hid (Fr (Fi i) c w w3):=Lib.hid ((Fr.of_below HB1.out).trans HX1.out.1 (HPS3.out.fr (by rw[HX1.out.2.2.2];exact Fi_0 i)))
 have HS3:Hid (SlR (opE 1) c1 1 w3 (.slice a1 (m-k) q1) ((r.log.take m).drop k)):=Lib.hid (HX1.out.2.1.fr (opE_ok 1) (Lx.refl _ _) (HPS3.out.fr (F:=Fi i) (by rw[HX1.out.2.2.2];exact Fi_0 i)) fun k hk=>by
  have:k=1:=by rcases hk with hk|hk<;>exact hk
  unfold Fi;omega)
 have HR3:Hid (RP i c1 w3 {r with td:=r.cm} (.slice la r.log.length lc) hv xv sv uv):=Lib.hid (by
  have h1:=HX1.out.2.2.1.ps HX1.out.2.2.2 HPS3.out
  exact⟨h1.lg,h1.hv,h1.of,h1.sv,h1.ou⟩)
 have hrd:ready r=ready r:=rfl
 by_cases htb:r.bs<to
 case neg=>
  have t1: ¬(r.bs:Int)<(to:Int):=by omega
  have HD:Hid (told r= {r with td:=r.cm}):=Lib.hid (by unfold told;rw[if_neg (by rw[←HTO.out];exact htb),if_neg (by rw[←HTO.out];exact htb)])
  clear hw3
  go_wp2_with fail
  go_ret
  refine⟨_,rfl,c1,HX1.out.1,HF3.out,?_,HS3.out⟩
  rw[HD.out]
  exact⟨HX1.out.2.2.2,_,hv,xv,sv,uv,HP3.out,HR3.out⟩
 case pos=>
  have t1:(r.bs:Int)<(to:Int):=by omega
  have HTB:=Lib.hid htb
  obtain⟨kk,hkk⟩: ∃kk,kk=to-r.bs:=⟨_,rfl⟩
  have hkl:kk≤r.log.length:=by have h1:=HTO.out;have h2:=HH.out.2.2.2.1.ls;have h3:=HH.out.2.2.2.1.bs;omega
  have hwr:IntKind.i64.wrap ((to:Int)-(r.bs:Int))=(kk:Int):=by
   have h1:=HTO.out
   have h2:=HH.out.2.2.2.1.ls
   have h3:=HH.out.2.2.2.1.bs
   have h4:=HH.out.2.2.2.1.lo
   have hTM:TM=1099511627776:=rfl
   exact Z197
  obtain⟨ob,hob⟩: ∃ob,ob=(if lc=kk then la else la.map (·.add (kk*16))):=⟨_,rfl⟩
  have hsl: ∀W,(Instr.slice 35 (.slice la r.log.length lc) (some (.int .i64 (kk:Int))) none none).run Tryz.prog W= .ok (.slice ob (r.log.length-kk) (lc-kk)) W:=fun W=>by
   rw[hob]
   exact slice_int W 35 la r.log.length lc kk rfl (s:=16) Z27 hkl
  have hsk:SlR (opE 1) c1 (11+10*i) w3 (.slice ob (r.log.length-kk) (lc-kk)) (r.log.drop kk):=by
   have h1:=HR3.out.lg.sl.back (opE_ok 1) rfl kk hkl
   rw[show(opE 1).sz=16 from rfl,←hob] at h1
   exact h1
  have hdl:(r.log.drop kk).length=r.log.length-kk:=List.length_drop
  have HCL:=Lib.hid (fun W (hb:Below w3.heap.size w3 W)=>clone_any (r.log.drop kk) (.slice ob (r.log.length-kk) (lc-kk)) W (hsk.below (opE_ok 1) hb) (by have:=HH.out.2.2.2.1.lo;rw[hdl];omega))
  have HKK:=Lib.hid (And.intro hkk hdl)
  clear hw3 htb hkk hkl hob hsk hdl
  go_upto_region 8 with fail
  clear y5 t1
  refine wp_region_K (fun W=>Below w3.heap.size w3 W∧W.cell? ⟨p,10,none⟩=some (.slice la r.log.length lc)∧W.cell? ⟨p,5,none⟩=some (.int .i64 (r.bs:Int))) 12 Z27 ?_ (fun hHeld1=> ?_)
  ·exact⟨(Below.refl _ _).drew,HP3.out.cell 10 rfl,HP3.out.cell 5 rfl⟩
  refine tkP 0 ?_ (y:=Z189)
  try simp only[ap]
  refine tkK 1 ?_ (y:=Z1)
  try simp only[ap]
  refine tkK 2 ?_ (y:=Z1)
  try simp only[ap]
  refine tkK 3 ?_ (y:=Z1)
  try simp only[ap]
  refine tkK 4 ?_ (y:=Z1)
  try simp only[ap]
  refine tkK 5 ?_ (y:=Z1)
  try simp only[ap]
  refine tkK 6 ?_ (y:=Z1)
  try simp only[ap]
  refine tkK 7 ?_ (y:=Z1)
  try simp only[ap]
  refine tkK 8 ?_ (y:=Z1)
  try simp only[ap]
  refine tkK 9 ?_ (y:=Z1)
  try simp only[ap]
  refine tkK 10 ?_ (y:=Z1)
  try simp only[ap]
  refine tkK 11 ?_ (y:=Z1)
  try simp only[ap]
  refine wpAnyK_lasts [13,14,15] Z27 Z31 Z31 ?_
  simp only[List.filterMap_cons,List.filterMap_nil,List.getElem?_toArray,List.getElem?_cons_succ,List.getElem?_cons_zero]
  refine wpList_step fun K hK0=> ?_
  have hK:=Lib.hid hK0
  clear hK0
  rw[if_pos Z31]
  go_simp
  refine(HCL.out _ (Below.refl _ _).drew).mono ?_
  rintro e w4 ⟨v4,rfl,hb4,⟨a4,q4,e4⟩,hng4,hrow4⟩
  rw[HKK.out.2] at e4
  subst e4
  have HB4:=Lib.hid ((Below.refl w3.heap.size w3).drew.trans hb4)
  have HRW4:=Lib.hid (hrow4 (11+10*i))
  have HP4:=Lib.hid (HP3.out.below HB4.out HP3.out.lt)
  clear hb4 hng4 hrow4
  have y10:=HP4.out.cell 10 rfl
  have f10:=HP4.out.frozen 10
  go_wp2_with fail
  refine hK.out _ _ ?_
  clear hK
  try simp only[ap]
  refine wpList_step fun K hK=> ?_
  rw[if_pos Z31]
  go_simp
  refine hK _ _ ?_
  clear hK
  try simp only[ap]
  refine wpList_step fun K hK=> ?_
  rw[if_pos Z31]
  go_simp
  refine hK _ _ ?_
  clear hK
  try simp only[ap]
  refine wpList_step fun K hK=> ?_
  rw[if_pos Z31]
  go_simp
  refine hK _ _ ?_
  clear hK
  try simp only[ap]
  clear y10 f10 hHeld1 hwr hsl
  have HP5:Hid (Blk (w4.setCell ⟨p,10,none⟩ (.slice a4 (r.log.length-kk) q4)) p 94 (rpC {r with td:=r.cm,log:=r.log.drop kk} (.slice a4 (r.log.length-kk) q4) hv xv sv uv)):=Lib.hid (HP4.out.set 10 _)
  have HPS5:Hid (Ps p w4 (w4.setCell ⟨p,10,none⟩ (.slice a4 (r.log.length-kk) q4))):=Lib.hid ((Ps.refl p w4).set _ _)
  have y5:w4.cell? ⟨p,5,none⟩=some (.int .i64 (r.bs:Int)):=HP4.out.cell 5 rfl
  have f5:=HP4.out.frozen 5
  obtain⟨c5,hc5⟩: ∃c5,c5=c1.row (.slice a4 (r.log.length-kk) q4) (11+10*i):=⟨_,rfl⟩
  have hlx5:Lx w3 c1 c5:=by rw[hc5];exact HRW4.out.1
  have hrow5:Row (opE 1) c5 (11+10*i) w4 (.slice a4 (r.log.length-kk) q4) (r.log.drop kk):=by rw[hc5];exact HRW4.out.2
  obtain⟨w6,hw6⟩: ∃w6,w6=(w4.setCell ⟨p,10,none⟩ (.slice a4 (r.log.length-kk) q4)).setCell ⟨p,5,none⟩ (.int .i64 (to:Int)):=⟨_,rfl⟩
  have hps6:Ps p w4 w6:=by rw[hw6];exact HPS5.out.set _ _
  have hc5p:c5 p=10+10*i:=(hlx5 p HP3.out.lt).trans HX1.out.2.2.2
  have hr4:RP i c5 w4 {r with td:=r.cm} (.slice la r.log.length lc) hv xv sv uv:=HR3.out.below hlx5 HB4.out
  have hr6:=hr4.ps hc5p hps6
  have HD:Hid (∃c',Lx w c c'∧Fr (Fi i) c w w6∧RV i c' w6 p (told r)∧SlR (opE 1) c' 1 w6 (.slice a1 (m-k) q1) ((r.log.take m).drop k)):=Lib.hid (by
   have hf6:Fr (Fi i) c5 w4 w6:=hps6.fr (by rw[hc5p];exact Fi_0 i)
   have hf36:Fr (Fi i) c1 w3 w6:=(Fr.of_below HB4.out).trans hlx5 hf6
   refine⟨c5,HX1.out.1.trans hlx5 HF3.out.size,HF3.out.trans HX1.out.1 hf36,?_,HS3.out.fr (opE_ok 1) hlx5 hf36 fun k hk=>by
    have:k=1:=by rcases hk with hk|hk<;>exact hk
    unfold Fi;omega⟩
   have ht:told r= {r with td:=r.cm,log:=r.log.drop kk,bs:=to}:=by
    unfold told
    rw[if_pos (by rw[←HTO.out];exact HTB.out),if_pos (by rw[←HTO.out];exact HTB.out),←HTO.out,←HKK.out.1]
   rw[ht]
   refine⟨hc5p,_,hv,xv,sv,uv,by rw[hw6];exact HP5.out.set 5 _,?_,hr6.hv,hr6.of,hr6.sv,hr6.ou⟩
   refine hrow5.keep (opE_ok 1) (Lx.refl _ _) fun g hg hl=>hps6.heap g fun e=> ?_
   rw[e,hc5p] at hl
   rcases hl with hl|hl
   ·have:10+10*i=1:=hl
    omega
   ·omega)
  rw[hw6] at HD
  clear hc5 hlx5 hrow5 hw6 hps6 hc5p hr4 hr6
  go_wp2_with fail
  go_ret
  obtain⟨c',h1,h2,h3,h4⟩:=HD.out
  exact⟨_,rfl,c',h1,h2,h3,h4⟩
end Go.Proofs.YtdmjegelcdghlaaGreat.Vw
