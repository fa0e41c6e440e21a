/-
  Chapter 22: an event of the group: a message comes.
-/
import Derived.Test.YtdmjegelcdghlaaGreatGGen
import Derived.Test.YtdmjegelcdghlaaGreatGKv
set_option maxRecDepth 100000
set_option maxHeartbeats 64000000
set_option linter.unusedVariables false
set_option linter.unusedSimpArgs false
namespace Go.Proofs.YtdmjegelcdghlaaGreat
theorem Z195 {p:Prop}(h:p:=by refine Or.inl ⟨Z31,?_⟩;intro W hSw;(try dsimp only at hSw);(have hb:=hSw.out.2.2;clear hSw;have z1:=hb.cell 1 rfl;have z2:=hb.cell 2 rfl;have z3:=hb.cell 3 rfl;have z4:=hb.cell 4 rfl;have z5:=hb.cell 5 rfl;have z6:=hb.cell 6 rfl;have z7:=hb.cell 7 rfl;have z8:=hb.cell 8 rfl;have z9:=hb.cell 9 rfl;clear hb);go_simp;(try with_reducible rfl)):p:=h
theorem Z174 {p:Prop}(h:p:=by refine Or.inl ⟨Z31,?_⟩;intro W hSw;(try dsimp only at hSw);(have q0:=hSw.out.1;have q1:=hSw.out.2.1;have z0:=hSw.out.2.2.cell 0 rfl;clear hSw);go_simp;(try with_reducible rfl)):p:=h
theorem Z131 {p:Prop}(h:p:=by exact Lib.hid ⟨(cell_eq HE6.out.1 _).trans y0b,(cell_eq HE6.out.2.1 _).trans x1b,HE6.out.2.2.trans HX5.out.2.2.2⟩):p:=h
end Go.Proofs.YtdmjegelcdghlaaGreat
namespace Go.Proofs.YtdmjegelcdghlaaGreat.Vw
open Go.RowKit Go.Maps
theorem do_take {N e li:Nat}{h:Gh Op}{c:Lb}{gp:Nat}{g:Gp Op}(ek ew ep:Int)(o:Op)(oa:Option Addr)(oc:Nat)(m:Mz)(ma:Option Addr)(mc:Nat)(w:World)(hgv:GV c w gp g)(D:DI N e h g)(he:e<160)(hu:TxA li c w (.slice oa o.c.sco.length oc) o)(hli: ¬Fg li)(hkd:ek=2):
 Calls Tryz.prog 26 #[.pointer (some ⟨gp,0,none⟩),.agg #[.int .i64 ek,.int .i64 ew,.int .i64 ep,.int .i64 o.ed,.int .i64 o.sq,.int .i64 o.lo,.int .i64 o.c.kd,.string ⟨o.c.fam.toArray⟩,.int .i64 o.c.ser,.int .i64 o.c.tok,.string ⟨o.c.cli.toArray⟩,.string ⟨o.c.usr.toArray⟩,.slice oa o.c.sco.length oc,.string ⟨o.c.red.toArray⟩,.string ⟨o.c.cha.toArray⟩,.string ⟨o.c.met.toArray⟩,.string ⟨o.c.ver.toArray⟩,.bool o.c.rf,.int .i64 o.c.edg,.int .i64 m.kd,.int .i64 m.fr,.int .i64 m.vw,.int .i64 m.nr,.int .i64 m.ao,.slice ma m.ops.length mc,.int .i64 m.cm,.int .i64 m.sb,.int .i64 m.ls]] w fun e' w'=>e'= .returned (.bool true)∧ ∃g',Mg c w w' gp g'∧DG e h g g':=by
 have HKD:=Lib.hid hkd
 clear hkd
 obtain⟨ps,br,cr,bk,ck,bs,cs,wv,bt,ct,ov,ss,hB,hG,hL,lbr,lbk,lbs,lbt⟩:=hgv.opn D.n.1
 obtain⟨wa,wc,ew2⟩:=hG.w.slice
 subst ew2
 obtain⟨w1,hw1⟩: ∃w1,w1=w.alloc (.cells #[.int .i64 ek,.int .i64 ew,.int .i64 ep,.int .i64 o.ed,.int .i64 o.sq,.int .i64 o.lo,.int .i64 o.c.kd,.string ⟨o.c.fam.toArray⟩,.int .i64 o.c.ser,.int .i64 o.c.tok,.string ⟨o.c.cli.toArray⟩,.string ⟨o.c.usr.toArray⟩,.slice oa o.c.sco.length oc,.string ⟨o.c.red.toArray⟩,.string ⟨o.c.cha.toArray⟩,.string ⟨o.c.met.toArray⟩,.string ⟨o.c.ver.toArray⟩,.bool o.c.rf,.int .i64 o.c.edg,.int .i64 m.kd,.int .i64 m.fr,.int .i64 m.vw,.int .i64 m.nr,.int .i64 m.ao,.slice ma m.ops.length mc,.int .i64 m.cm,.int .i64 m.sb,.int .i64 m.ls] 62):=⟨_,rfl⟩
 obtain⟨b1,hb1⟩: ∃b1,b1=w.heap.size:=⟨_,rfl⟩
 have hbw:Below w.heap.size w w1:=by rw[hw1];exact(Below.refl _ _).alloc (Nat.le_refl _) _
 have hE1:Blk w1 b1 62 [.int .i64 ek,.int .i64 ew,.int .i64 ep,.int .i64 o.ed,.int .i64 o.sq,.int .i64 o.lo,.int .i64 o.c.kd,.string ⟨o.c.fam.toArray⟩,.int .i64 o.c.ser,.int .i64 o.c.tok,.string ⟨o.c.cli.toArray⟩,.string ⟨o.c.usr.toArray⟩,.slice oa o.c.sco.length oc,.string ⟨o.c.red.toArray⟩,.string ⟨o.c.cha.toArray⟩,.string ⟨o.c.met.toArray⟩,.string ⟨o.c.ver.toArray⟩,.bool o.c.rf,.int .i64 o.c.edg,.int .i64 m.kd,.int .i64 m.fr,.int .i64 m.vw,.int .i64 m.nr,.int .i64 m.ao,.slice ma m.ops.length mc,.int .i64 m.cm,.int .i64 m.sb,.int .i64 m.ls]:=by rw[hw1,hb1];exact Blk.new w 62 _
 have HE1:=Lib.hid hE1
 have HH:=Lib.hid (And.intro hB (And.intro hG (And.intro hL (And.intro hgv (And.intro D (And.intro he (And.intro hu (And.intro hli (And.intro hbw hb1)))))))))
 obtain⟨i,hin,hi⟩:=mod_lem ew g.n D.n.1 Z103
 have e1:=hE1.cell 1 rfl
 have e2:=hE1.cell 2 rfl
 have e0:=hE1.cell 0 rfl
 have y0:=(hB.below hbw hB.lt).cell 0 rfl
 have y3:=(hB.below hbw hB.lt).cell 3 rfl
 have hnz: ¬(g.n:Int)=0:=by have:=D.n.1;omega
 have hnu:IntKind.u64.wrap (g.n:Int)=(g.n:Int):=by
  exact Z34
 have hw9:=D.way
 have HW1:=Lib.hid hw1
 rw[hw1,hb1] at e0 e1 e2
 rw[hw1] at y0 y3
 clear hB hG hL hgv D he hu hli hbw hE1 lbr lbk lbs lbt hw1 hb1
 go_enter Tryz.func26,Tryz.ntmps26
 go_upto_region 1 with fail
 go_quiet (fail)
 simp only[hi]
 have HB2:Hid (Below w.heap.size w (w1.drewN nq)∧(w1.drewN nq).heap=w1.heap):=Lib.hid ⟨below_drewN HH.out.2.2.2.2.2.2.2.2.1 nq,drewN_heap w1 nq⟩
 rw[←HW1.out] at y0 y3 e0 e1 e2⊢
 rw[←HH.out.2.2.2.2.2.2.2.2.2] at e0 e1 e2⊢
 generalize w1.drewN nq=w2 at*
 have e0:=(cell_eq (congrArg (fun h=>h[b1]?) HB2.out.2) 0).trans e0
 have e2:=(cell_eq (congrArg (fun h=>h[b1]?) HB2.out.2) 2).trans e2
 have y3:=(cell_eq (congrArg (fun h=>h[gp]?) HB2.out.2) 3).trans y3
 clear y0 e1
 go_upto_if 25 with fail
 go_cut [6] from 25 (fun kv wx=> ∃z:Int,kv= .int .i64 z∧(g.way.length=0→z= -1)∧(0<g.way.length→ ∃k:Nat,k<g.way.length∧z=(k:Int))∧ ∃n,wx=w2.drewN n)
 case first=>
  exact Z10
 case rest=>
  trace_state
  obtain⟨z,rfl,hz0,hz1,n3,rfl⟩:=hcut
  have HB3:Hid (Below w.heap.size w (w2.drewN n3)∧(w2.drewN n3).heap=w1.heap):=Lib.hid ⟨below_drewN HB2.out.1 n3,(drewN_heap w2 n3).trans HB2.out.2⟩
  generalize w2.drewN n3=w3 at*
  have e0:w3.cell? ⟨b1,0,none⟩=some (.int .i64 ek):=(cell_eq (congrArg (fun h=>h[b1]?) HB3.out.2) 0).trans (HE1.out.cell 0 rfl)
  have HE3:Hid (Blk w3 b1 62 [.int .i64 ek,.int .i64 ew,.int .i64 ep,.int .i64 o.ed,.int .i64 o.sq,.int .i64 o.lo,.int .i64 o.c.kd,.string ⟨o.c.fam.toArray⟩,.int .i64 o.c.ser,.int .i64 o.c.tok,.string ⟨o.c.cli.toArray⟩,.string ⟨o.c.usr.toArray⟩,.slice oa o.c.sco.length oc,.string ⟨o.c.red.toArray⟩,.string ⟨o.c.cha.toArray⟩,.string ⟨o.c.met.toArray⟩,.string ⟨o.c.ver.toArray⟩,.bool o.c.rf,.int .i64 o.c.edg,.int .i64 m.kd,.int .i64 m.fr,.int .i64 m.vw,.int .i64 m.nr,.int .i64 m.ao,.slice ma m.ops.length mc,.int .i64 m.cm,.int .i64 m.sb,.int .i64 m.ls]):=Lib.hid ((congrArg (fun h=>h[b1]?) HB3.out.2).trans HE1.out)
  have hn7:g.n≤7:=by have:=HH.out.2.2.2.2.1.n;omega
  have HV3:=Lib.hid (HH.out.2.2.2.1.below hn7 HB3.out.1)
  have HI:=Lib.hid (And.intro hin (And.intro hz0 (And.intro hz1 hn7)))
  clear e2 y3 HB2 HW1 hz0 hz1 hnz hnu hw9 hi hn7
  have HFIN:Hid (∀w' g' h' N',Mg c w3 w' gp g'→DI N' (e+1) h' g'→Gon g.n h h' g g'→ ∃g',Mg c w w' gp g'∧DG e h g g'):=Lib.hid fun w' g' h' N' q1 q2 q3=>⟨g',Mg.trans (Lx.refl _ _) (Fr.of_below HB3.out.1) q1,⟨h',N',q2,q3⟩⟩
  obtain⟨ps,br,cr,bk,ck,bs,cs,wv,bt,ct,ov,ss,hB,hG,hL,-⟩:=HV3.out.opn HH.out.2.2.2.2.1.n.1
  obtain⟨x1,_,_,_,_,_⟩:=hG.cells HI.out.1
  have y0:=hB.cell 0 rfl
  have HG:=Lib.hid (And.intro hB (And.intro hG hL))
  have t1:(i:Int)<(g.n:Int):=by have:=HI.out.1;omega
  have HBD:Hid ((g.saves i).length≤100000000∧g.way.length≤100000000):=Lib.hid (by
   have D:=HH.out.2.2.2.2.1
   have h1:=D.sv.n i HI.out.1
   have h2:=D.way
   have h3:=D.le
   omega)
  clear hB hG hL hin
  have k0:(ek==0)=false:=by simp[HKD.out]
  have k1:(ek==1)=false:=by simp[HKD.out]
  have k2:(ek==2)=true:=by simp[HKD.out]
  by_cases hlen:g.way.length=0
  case pos=>
   have hz:=HI.out.2.1 hlen
   have HNO:=Lib.hid (gtake_no z w3 HV3.out HH.out.2.2.2.2.1.n.1 (.inl Z11))
   clear hz
   go_wp2_with fail
   refine HNO.out.mono ?_
   rintro e4 w4 ⟨rfl,hb4⟩
   have HB4:=Lib.hid hb4
   clear hb4
   go_wp2_with fail
   go_ret
   have hD:=HH.out.2.2.2.2.1.up HH.out.2.2.2.2.2.1
   have hbb:=HB4.out.alloc HB4.out.size (.cells #[.int .i64 0,.int .i64 0,.int .i64 0,.int .i64 0,.int .i64 0,.int .i64 0,.slice none 0 0,.int .i64 0,.int .i64 0,.int .i64 0] 53)
   exact⟨rfl,HFIN.out _ _ _ _ ⟨c,Lx.refl _ _,Fr.of_below hbb,HV3.out.below HI.out.2.2.2 hbb⟩ hD (Gon.refl _ _ _ _ rfl rfl)⟩
  case neg=>
  obtain⟨k,hkl,rfl⟩:=HI.out.2.2.1 Z11
  obtain⟨x,hx⟩: ∃x,g.way[k]?=some x:=⟨_,List.getElem?_eq_getElem hkl⟩
  obtain⟨hto,htb,h5,hds⟩:=HH.out.2.2.2.2.1.take HH.out.2.2.2.2.2.1 hx
  have HDS:=Lib.hid hds
  have HTB:=Lib.hid (And.intro hto htb)
  have HTA:=Lib.hid (gtake_any k w3 HV3.out HH.out.2.2.2.2.1.n hx HBD.out.2)
  have HKL:=Lib.hid hkl
  clear hds hto htb hx hkl hlen
  unfold sdV sdC at HTA
  go_upto_region 13 with fail
  go_wp2_with fail
  refine HTA.out.mono ?_
  rintro e4 w4 ⟨ua,uc,rfl,c4,hx4,hf4,hv4,hs4⟩
  have HM4:=Lib.hid (And.intro hx4 (And.intro hf4 (And.intro hv4 hs4)))
  clear hx4 hf4 hv4 hs4
  go_upto_region 16 with fail
  obtain⟨w5,hw5⟩: ∃w5,w5=w4.alloc (.cells #[.int .i64 (x.to:Int),.int .i64 (x.m.kd:Int),.int .i64 (x.m.fr:Int),.int .i64 (x.m.vw:Int),.int .i64 (x.m.nr:Int),.int .i64 (x.m.ao:Int),.slice ua x.m.ops.length uc,.int .i64 (x.m.cm:Int),.int .i64 (x.m.sb:Int),.int .i64 (x.m.ls:Int)] 53):=⟨_,rfl⟩
  obtain⟨bx,hbx⟩: ∃bx,bx=w4.heap.size:=⟨_,rfl⟩
  obtain⟨c5,hc5⟩: ∃c5:Lb,c5=(fun j=>if j<w4.heap.size then c4 j else 0):=⟨_,rfl⟩
  have hn7:(wayOut g k).n≤7:=HI.out.2.2.2
  have h45:Below w4.heap.size w4 w5:=by rw[hw5];exact(Below.refl _ _).alloc (Nat.le_refl _) _
  have hlx5:Lx w4 c4 c5:=by rw[hc5];exact fun j hj=>if_pos hj
  have HX5:Hid (Lx w3 c c5∧Fr Fg c w3 w5∧c5 bx=0∧Blk w5 bx 53 [.int .i64 (x.to:Int),.int .i64 (x.m.kd:Int),.int .i64 (x.m.fr:Int),.int .i64 (x.m.vw:Int),.int .i64 (x.m.nr:Int),.int .i64 (x.m.ao:Int),.slice ua x.m.ops.length uc,.int .i64 (x.m.cm:Int),.int .i64 (x.m.sb:Int),.int .i64 (x.m.ls:Int)]):=Lib.hid
   ⟨HM4.out.1.trans hlx5 HM4.out.2.1.size,(HM4.out.2.1.mono fun l hl=>Z65).trans HM4.out.1 (Fr.of_below h45),by rw[hc5,hbx];exact if_neg Z11,by rw[hw5,hbx];exact Blk.new w4 53 _⟩
  have HV5:=Lib.hid (HM4.out.2.2.1.keep hn7 hlx5 fun j hj _=>h45.block j hj)
  have HS5:=Lib.hid (HM4.out.2.2.2.keep (opE_ok 3) hlx5 fun j hj _=>h45.block j hj)
  rw[←hw5,←hbx]
  clear hw5 hbx hc5 hn7 h45 hlx5
  obtain⟨ps2,br2,cr2,bk2,ck2,bs2,cs2,wv2,bt2,ct2,ov2,ss2,hB2,hG2,hL2,hlb2,-⟩:=HV5.out.opn HH.out.2.2.2.2.1.n.1
  obtain⟨x1b,_,_,_,_,_⟩:=GP.cells (g:=wayOut g k) hG2 (show x.to<(wayOut g k).n from HTB.out.1)
  have y0b:=hB2.cell 0 rfl
  have HG2:=Lib.hid (And.intro hB2 (And.intro hG2 (And.intro hL2 hlb2)))
  have t1x:(x.to:Int)<(g.n:Int):=by have:=HTB.out.1;omega
  have hF3: ¬Fi x.to 3:=fun h=>by have h9:10+10*x.to≤3∧3≤15+10*x.to:=h;omega
  have HTK:=Lib.hid (take_any (i:=x.to) x.m (.slice ua x.m.ops.length uc) (ps2 x.to) w5.drew ((hG2.rp x.to HTB.out.1).keep (Lx.refl w5 c5) fun _ _ _=>rfl) (HS5.out.keep (opE_ok 3) (Lx.refl w5 c5) fun _ _ _=>rfl) ⟨hF3,hF3⟩ HTB.out.2)
  unfold msV at HTK
  clear hB2 hG2 hL2 hlb2 hF3
  refine wp_region_K (fun W=>Hid (W.cell? ⟨gp,0,none⟩=some (.slice (some ⟨br2,0,none⟩) g.n cr2)∧W.cell? ⟨br2,x.to,none⟩=some (.pointer (some ⟨ps2 x.to,0,none⟩))∧Blk W bx 53 [.int .i64 (x.to:Int),.int .i64 (x.m.kd:Int),.int .i64 (x.m.fr:Int),.int .i64 (x.m.vw:Int),.int .i64 (x.m.nr:Int),.int .i64 (x.m.ao:Int),.slice ua x.m.ops.length uc,.int .i64 (x.m.cm:Int),.int .i64 (x.m.sb:Int),.int .i64 (x.m.ls:Int)])) 16 Z27 ?_ (fun hHeld1=> ?_)
  ·exact Lib.hid ⟨y0b,x1b,HX5.out.2.2.2⟩
  refine tkK 0 ?_ (y:=Z7)
  try simp only[ap]
  refine tkK 1 ?_ (y:=Z7)
  try simp only[ap]
  refine tkK 2 ?_ (y:=Z7)
  try simp only[ap]
  refine tkK 3 ?_ (y:=Z174)
  try simp only[ap]
  refine tkK 4 ?_ (y:=Z7)
  try simp only[ap]
  refine tkK 5 ?_ (y:=Z174)
  try simp only[ap]
  refine tkK 6 ?_ (y:=Z7)
  try simp only[ap]
  refine tkK 7 ?_ (y:=Z174)
  try simp only[ap]
  refine tkK 8 ?_ (y:=Z7)
  try simp only[ap]
  refine tkK 9 ?_ (y:=Z195)
  try simp only[ap]
  refine wpAnyK_ready (rs:= [10]) Z27 Z93 ?_
  refine AllReadyK.cons (o:= ?oi11) ?hi11 (fun K hK=> ?hs11) AllReadyK.nil
  case hi11=>exact Z20
  go_simp
  refine HTK.out.mono ?_
  rintro e6 w6 ⟨rfl,hm6⟩
  have HM6:=Lib.hid (Mt.undrew hm6)
  clear hm6
  have HE6:Hid (w6.heap[gp]?=w5.heap[gp]?∧w6.heap[br2]?=w5.heap[br2]?∧w6.heap[bx]?=w5.heap[bx]?):=Lib.hid (by
   obtain⟨c6,h1,h2,h3⟩:=HM6.out
   have hto:x.to<5:=by have:=HTB.out.1;have:=HH.out.2.2.2.2.1.n;omega
   exact⟨h2.block gp HG2.out.1.lt (by rw[HG2.out.2.2.1.1];unfold Fi;omega),h2.block br2 HG2.out.2.2.2 (by rw[HG2.out.2.2.1.2.1];unfold Fi;omega),h2.block bx HX5.out.2.2.2.lt (by rw[HX5.out.2.2.1];unfold Fi;omega)⟩)
  go_wp2_with fail
  refine hK.out _ _ ?_ (fun hHeld2=> ?_)
  ·exact Z131
  clear hK
  try simp only[ap]
  refine tkK 11 ?_ (y:=Z7)
  try simp only[ap]
  refine tkK 12 ?_ (y:=Z7)
  try simp only[ap]
  refine tkK 13 ?_ (y:=Z7)
  try simp only[ap]
  refine tkK 14 ?_ (y:=Z7)
  try simp only[ap]
  refine tkK 15 ?_ (y:=Z174)
  try simp only[ap]
  refine wpAnyK_lasts [17,18] Z27 Z31 Z31 ?_
  simp only[List.filterMap_cons,List.filterMap_nil,List.getElem?_toArray,List.getElem?_cons_succ,List.getElem?_cons_zero]
  obtain⟨c6,hx6,hf6,hr6⟩:=HM6.out
  have HSE:=Lib.hid (now_any (g:=wayOut g k) w5 w6 HG2.out.2.2.1.1 HG2.out.1 HG2.out.2.1 HH.out.2.2.2.2.1.n HTB.out.1 HDS.out.pre Z137 HDS.out.sz (by
   have D:=HH.out.2.2.2.2.1
   have h1:=D.sv.n x.to HTB.out.1
   have h2:=D.way
   have h3:=D.le
   have h4:(wayOut g k).way.length≤g.way.length:=by
    show(g.way.take k++g.way.drop (k+1)).length≤_
    rw[List.length_append,List.length_take,List.length_drop]
    have:=HKL.out
    omega
   exact⟨by show(g.saves x.to).length≤_;omega,Z11⟩) hx6 hf6 hr6)
  clear hx6 hf6 hr6 hHeld1 hHeld2 HTK
  refine wpList_step fun K hK0=> ?_
  have hK:=Lib.hid hK0
  clear hK0
  rw[if_pos Z31]
  go_simp
  refine HSE.out.mono ?_
  rintro e7 w7 ⟨rfl,hm7⟩
  have HM7:=Lib.hid hm7
  clear hm7
  go_wp2_with fail
  refine hK.out _ _ ?_
  clear hK
  try simp only[ap]
  go_wp2_with fail
  go_ret
  exact⟨rfl,HFIN.out _ _ _ _ (Mg.trans HX5.out.1 HX5.out.2.1 HM7.out) HDS.out.di ⟨HDS.out.gon.nn,HDS.out.gon.ee,HDS.out.gon.vv⟩⟩
end Go.Proofs.YtdmjegelcdghlaaGreat.Vw
namespace Go.Proofs.YtdmjegelcdghlaaGreat
theorem Z3 {p:Prop}(h:p:=by
 go_wp2_with fail
 go_loopw [155] (fun _ wr=> ∃g',Mg c w3 wr gp g'∧DI N (e+1) h g'∧Gon g.n h h g g') (fun _ wr=>wayAt wr gp)
 case atStart=>exact HLS.out
 case round=>
  obtain⟨gq,⟨cq,hxq,hfq,hvq⟩,hdq,hgq⟩:=hrel
  obtain⟨psq,brq,crq,bkq,ckq,bsq,csq,wvq,btq,ctq,ovq,ssq,hBq,hGq,-⟩:=hvq.opn hdq.n.1
  obtain⟨waq,wcq,ewq⟩:=hGq.w.slice
  subst ewq
  have HQ:=Lib.hid (And.intro hxq (And.intro hfq (And.intro hvq (And.intro hdq hgq))))
  have y3q:=hBq.cell 3 rfl
  have HY3:=Lib.hid y3q
  clear hBq hGq hxq hfq hvq hgq
  by_cases h200:200<gq.way.length
  case pos=>
   have t200:(200:Int)<(gq.way.length:Int):=by omega
   obtain⟨xq,hxq⟩: ∃xq,gq.way[0]?=some xq:=⟨_,List.getElem?_eq_getElem (by omega)⟩
   have HTQ:=Lib.hid (gtake_any 0 wr HQ.out.2.2.1 hdq.n hxq (by have:=hdq.way;omega))
   have HL2:=Lib.hid h200
   clear hxq hdq
   unfold sdV sdC at HTQ
   go_wp2_with fail
   refine HTQ.out.mono ?_
   rintro eq wq ⟨uaq,ucq,rfl,c4,hx4,hf4,hv4,-⟩
   have HM4:=Lib.hid (And.intro hx4 (And.intro hf4 hv4))
   clear hx4 hf4 hv4
   have HN:Hid ((∃g',Mg c w3 wq gp g'∧DI N (e+1) h g'∧Gon g.n h h g g')∧wayAt wq gp=gq.way.length-1):=Lib.hid (by
    refine⟨⟨wayOut gq 0,⟨c4,HQ.out.1.trans HM4.out.1 HQ.out.2.1.size,HQ.out.2.1.trans HQ.out.1 (HM4.out.2.1.mono fun l hl=>by unfold Fg;omega),HM4.out.2.2⟩,HQ.out.2.2.2.1.drop 0,HQ.out.2.2.2.2.nn,HQ.out.2.2.2.2.ee,HQ.out.2.2.2.2.vv⟩,?_⟩
    obtain⟨_,_,_,_,_,_,_,_,_,_,_,_,hB5,hG5,-⟩:=HM4.out.2.2.opn HQ.out.2.2.2.1.n.1
    obtain⟨a5,c5,e5⟩:=hG5.w.slice
    have e6:(wayOut gq 0).way.length=gq.way.length-1:=by
     show(gq.way.take 0++gq.way.drop (0+1)).length=_
     rw[List.length_append,List.length_drop];simp
    rw[e5] at hB5
    rw[wayAt_of (hB5.cell 3 rfl),e6])
   clear HTQ HM4
   go_wp2_with fail
   go_roundw
   case rel=>exact HN.out.1
   case measure=>rw[HN.out.2,wayAt_of HY3.out];have:=HL2.out;omega
  case neg=>
   have t200: ¬(200:Int)<(gq.way.length:Int):=by omega
   clear hdq
   go_wp2_with fail
   go_ret
   exact⟨rfl,HFIN.out _ _ _ _ ⟨cq,HQ.out.1,HQ.out.2.1,HQ.out.2.2.1⟩ HQ.out.2.2.2.1 HQ.out.2.2.2.2⟩):p:=h
end Go.Proofs.YtdmjegelcdghlaaGreat
namespace Go.Proofs.YtdmjegelcdghlaaGreat.Vw
open Go.RowKit Go.Maps
def wayAt (W:World)(b:Nat):Nat:=match W.cell? ⟨b,3,none⟩ with
 |some (.slice _ n _)=>n
 |_=>0
theorem wayAt_of {W:World}{b:Nat}{a:Option Addr}{n c:Nat}(h:W.cell? ⟨b,3,none⟩=some (.slice a n c)):wayAt W b=n:=by unfold wayAt;rw[h]
theorem do_none {N e li:Nat}{h:Gh Op}{c:Lb}{gp:Nat}{g:Gp Op}(ek ew ep:Int)(o:Op)(oa:Option Addr)(oc:Nat)(m:Mz)(ma:Option Addr)(mc:Nat)(w:World)(hgv:GV c w gp g)(D:DI N e h g)(he:e<160)(hu:TxA li c w (.slice oa o.c.sco.length oc) o)(hli: ¬Fg li)(hkd:ek<0∨6<ek):
 Calls Tryz.prog 26 #[.pointer (some ⟨gp,0,none⟩),.agg #[.int .i64 ek,.int .i64 ew,.int .i64 ep,.int .i64 o.ed,.int .i64 o.sq,.int .i64 o.lo,.int .i64 o.c.kd,.string ⟨o.c.fam.toArray⟩,.int .i64 o.c.ser,.int .i64 o.c.tok,.string ⟨o.c.cli.toArray⟩,.string ⟨o.c.usr.toArray⟩,.slice oa o.c.sco.length oc,.string ⟨o.c.red.toArray⟩,.string ⟨o.c.cha.toArray⟩,.string ⟨o.c.met.toArray⟩,.string ⟨o.c.ver.toArray⟩,.bool o.c.rf,.int .i64 o.c.edg,.int .i64 m.kd,.int .i64 m.fr,.int .i64 m.vw,.int .i64 m.nr,.int .i64 m.ao,.slice ma m.ops.length mc,.int .i64 m.cm,.int .i64 m.sb,.int .i64 m.ls]] w fun e' w'=>e'= .returned (.bool true)∧ ∃g',Mg c w w' gp g'∧DG e h g g':=by
 have HKD:=Lib.hid hkd
 clear hkd
 obtain⟨ps,br,cr,bk,ck,bs,cs,wv,bt,ct,ov,ss,hB,hG,hL,lbr,lbk,lbs,lbt⟩:=hgv.opn D.n.1
 obtain⟨wa,wc,ew2⟩:=hG.w.slice
 subst ew2
 obtain⟨w1,hw1⟩: ∃w1,w1=w.alloc (.cells #[.int .i64 ek,.int .i64 ew,.int .i64 ep,.int .i64 o.ed,.int .i64 o.sq,.int .i64 o.lo,.int .i64 o.c.kd,.string ⟨o.c.fam.toArray⟩,.int .i64 o.c.ser,.int .i64 o.c.tok,.string ⟨o.c.cli.toArray⟩,.string ⟨o.c.usr.toArray⟩,.slice oa o.c.sco.length oc,.string ⟨o.c.red.toArray⟩,.string ⟨o.c.cha.toArray⟩,.string ⟨o.c.met.toArray⟩,.string ⟨o.c.ver.toArray⟩,.bool o.c.rf,.int .i64 o.c.edg,.int .i64 m.kd,.int .i64 m.fr,.int .i64 m.vw,.int .i64 m.nr,.int .i64 m.ao,.slice ma m.ops.length mc,.int .i64 m.cm,.int .i64 m.sb,.int .i64 m.ls] 62):=⟨_,rfl⟩
 obtain⟨b1,hb1⟩: ∃b1,b1=w.heap.size:=⟨_,rfl⟩
 have hbw:Below w.heap.size w w1:=by rw[hw1];exact(Below.refl _ _).alloc (Nat.le_refl _) _
 have hE1:Blk w1 b1 62 [.int .i64 ek,.int .i64 ew,.int .i64 ep,.int .i64 o.ed,.int .i64 o.sq,.int .i64 o.lo,.int .i64 o.c.kd,.string ⟨o.c.fam.toArray⟩,.int .i64 o.c.ser,.int .i64 o.c.tok,.string ⟨o.c.cli.toArray⟩,.string ⟨o.c.usr.toArray⟩,.slice oa o.c.sco.length oc,.string ⟨o.c.red.toArray⟩,.string ⟨o.c.cha.toArray⟩,.string ⟨o.c.met.toArray⟩,.string ⟨o.c.ver.toArray⟩,.bool o.c.rf,.int .i64 o.c.edg,.int .i64 m.kd,.int .i64 m.fr,.int .i64 m.vw,.int .i64 m.nr,.int .i64 m.ao,.slice ma m.ops.length mc,.int .i64 m.cm,.int .i64 m.sb,.int .i64 m.ls]:=by rw[hw1,hb1];exact Blk.new w 62 _
 have HE1:=Lib.hid hE1
 have HH:=Lib.hid (And.intro hB (And.intro hG (And.intro hL (And.intro hgv (And.intro D (And.intro he (And.intro hu (And.intro hli (And.intro hbw hb1)))))))))
 obtain⟨i,hin,hi⟩:=mod_lem ew g.n D.n.1 Z103
 have e1:=hE1.cell 1 rfl
 have e2:=hE1.cell 2 rfl
 have e0:=hE1.cell 0 rfl
 have y0:=(hB.below hbw hB.lt).cell 0 rfl
 have y3:=(hB.below hbw hB.lt).cell 3 rfl
 have hnz: ¬(g.n:Int)=0:=by have:=D.n.1;omega
 have hnu:IntKind.u64.wrap (g.n:Int)=(g.n:Int):=by
  exact Z34
 have hw9:=D.way
 have HW1:=Lib.hid hw1
 rw[hw1,hb1] at e0 e1 e2
 rw[hw1] at y0 y3
 clear hB hG hL hgv D he hu hli hbw hE1 lbr lbk lbs lbt hw1 hb1
 go_enter Tryz.func26,Tryz.ntmps26
 go_upto_region 1 with fail
 go_quiet (fail)
 simp only[hi]
 have HB2:Hid (Below w.heap.size w (w1.drewN nq)∧(w1.drewN nq).heap=w1.heap):=Lib.hid ⟨below_drewN HH.out.2.2.2.2.2.2.2.2.1 nq,drewN_heap w1 nq⟩
 rw[←HW1.out] at y0 y3 e0 e1 e2⊢
 rw[←HH.out.2.2.2.2.2.2.2.2.2] at e0 e1 e2⊢
 generalize w1.drewN nq=w2 at*
 have e0:=(cell_eq (congrArg (fun h=>h[b1]?) HB2.out.2) 0).trans e0
 have e2:=(cell_eq (congrArg (fun h=>h[b1]?) HB2.out.2) 2).trans e2
 have y3:=(cell_eq (congrArg (fun h=>h[gp]?) HB2.out.2) 3).trans y3
 clear y0 e1
 go_upto_if 25 with fail
 go_cut [6] from 25 (fun kv wx=> ∃z:Int,kv= .int .i64 z∧(g.way.length=0→z= -1)∧(0<g.way.length→ ∃k:Nat,k<g.way.length∧z=(k:Int))∧ ∃n,wx=w2.drewN n)
 case first=>
  exact Z10
 case rest=>
  trace_state
  obtain⟨z,rfl,hz0,hz1,n3,rfl⟩:=hcut
  have HB3:Hid (Below w.heap.size w (w2.drewN n3)∧(w2.drewN n3).heap=w1.heap):=Lib.hid ⟨below_drewN HB2.out.1 n3,(drewN_heap w2 n3).trans HB2.out.2⟩
  generalize w2.drewN n3=w3 at*
  have e0:w3.cell? ⟨b1,0,none⟩=some (.int .i64 ek):=(cell_eq (congrArg (fun h=>h[b1]?) HB3.out.2) 0).trans (HE1.out.cell 0 rfl)
  have HE3:Hid (Blk w3 b1 62 [.int .i64 ek,.int .i64 ew,.int .i64 ep,.int .i64 o.ed,.int .i64 o.sq,.int .i64 o.lo,.int .i64 o.c.kd,.string ⟨o.c.fam.toArray⟩,.int .i64 o.c.ser,.int .i64 o.c.tok,.string ⟨o.c.cli.toArray⟩,.string ⟨o.c.usr.toArray⟩,.slice oa o.c.sco.length oc,.string ⟨o.c.red.toArray⟩,.string ⟨o.c.cha.toArray⟩,.string ⟨o.c.met.toArray⟩,.string ⟨o.c.ver.toArray⟩,.bool o.c.rf,.int .i64 o.c.edg,.int .i64 m.kd,.int .i64 m.fr,.int .i64 m.vw,.int .i64 m.nr,.int .i64 m.ao,.slice ma m.ops.length mc,.int .i64 m.cm,.int .i64 m.sb,.int .i64 m.ls]):=Lib.hid ((congrArg (fun h=>h[b1]?) HB3.out.2).trans HE1.out)
  have hn7:g.n≤7:=by have:=HH.out.2.2.2.2.1.n;omega
  have HV3:=Lib.hid (HH.out.2.2.2.1.below hn7 HB3.out.1)
  have HI:=Lib.hid (And.intro hin (And.intro hz0 (And.intro hz1 hn7)))
  clear e2 y3 HB2 HW1 hz0 hz1 hnz hnu hw9 hi hn7
  have HFIN:Hid (∀w' g' h' N',Mg c w3 w' gp g'→DI N' (e+1) h' g'→Gon g.n h h' g g'→ ∃g',Mg c w w' gp g'∧DG e h g g'):=Lib.hid fun w' g' h' N' q1 q2 q3=>⟨g',Mg.trans (Lx.refl _ _) (Fr.of_below HB3.out.1) q1,⟨h',N',q2,q3⟩⟩
  obtain⟨ps,br,cr,bk,ck,bs,cs,wv,bt,ct,ov,ss,hB,hG,hL,-⟩:=HV3.out.opn HH.out.2.2.2.2.1.n.1
  obtain⟨x1,_,_,_,_,_⟩:=hG.cells HI.out.1
  have y0:=hB.cell 0 rfl
  have HG:=Lib.hid (And.intro hB (And.intro hG hL))
  have t1:(i:Int)<(g.n:Int):=by have:=HI.out.1;omega
  have HBD:Hid ((g.saves i).length≤100000000∧g.way.length≤100000000):=Lib.hid (by
   have D:=HH.out.2.2.2.2.1
   have h1:=D.sv.n i HI.out.1
   have h2:=D.way
   have h3:=D.le
   omega)
  clear hB hG hL hin
  have k0:(ek==0)=false:=by have:=HKD.out;rw[beq_eq_false_iff_ne];omega
  have k1:(ek==1)=false:=by have:=HKD.out;rw[beq_eq_false_iff_ne];omega
  have k2:(ek==2)=false:=by have:=HKD.out;rw[beq_eq_false_iff_ne];omega
  have k3:(ek==3)=false:=by have:=HKD.out;rw[beq_eq_false_iff_ne];omega
  have k4:(ek==4)=false:=by have:=HKD.out;rw[beq_eq_false_iff_ne];omega
  have k5:(ek==5)=false:=by have:=HKD.out;rw[beq_eq_false_iff_ne];omega
  have k6:(ek==6)=false:=by have:=HKD.out;rw[beq_eq_false_iff_ne];omega
  have HLS:Hid (∃g',Mg c w3 w3 gp g'∧DI N (e+1) h g'∧Gon g.n h h g g'):=Lib.hid ⟨g,⟨c,Lx.refl _ _,Fr.refl _ _ _,HV3.out⟩,HH.out.2.2.2.2.1.up HH.out.2.2.2.2.2.1,Gon.refl _ _ _ _ rfl rfl⟩
  exact Z3
open Go.RowKit Go.Maps
theorem do_drop {N e li:Nat}{h:Gh Op}{c:Lb}{gp:Nat}{g:Gp Op}(ek ew ep:Int)(o:Op)(oa:Option Addr)(oc:Nat)(m:Mz)(ma:Option Addr)(mc:Nat)(w:World)(hgv:GV c w gp g)(D:DI N e h g)(he:e<160)(hu:TxA li c w (.slice oa o.c.sco.length oc) o)(hli: ¬Fg li)(hkd:ek=3):
 Calls Tryz.prog 26 #[.pointer (some ⟨gp,0,none⟩),.agg #[.int .i64 ek,.int .i64 ew,.int .i64 ep,.int .i64 o.ed,.int .i64 o.sq,.int .i64 o.lo,.int .i64 o.c.kd,.string ⟨o.c.fam.toArray⟩,.int .i64 o.c.ser,.int .i64 o.c.tok,.string ⟨o.c.cli.toArray⟩,.string ⟨o.c.usr.toArray⟩,.slice oa o.c.sco.length oc,.string ⟨o.c.red.toArray⟩,.string ⟨o.c.cha.toArray⟩,.string ⟨o.c.met.toArray⟩,.string ⟨o.c.ver.toArray⟩,.bool o.c.rf,.int .i64 o.c.edg,.int .i64 m.kd,.int .i64 m.fr,.int .i64 m.vw,.int .i64 m.nr,.int .i64 m.ao,.slice ma m.ops.length mc,.int .i64 m.cm,.int .i64 m.sb,.int .i64 m.ls]] w fun e' w'=>e'= .returned (.bool true)∧ ∃g',Mg c w w' gp g'∧DG e h g g':=by
 have HKD:=Lib.hid hkd
 clear hkd
 obtain⟨ps,br,cr,bk,ck,bs,cs,wv,bt,ct,ov,ss,hB,hG,hL,lbr,lbk,lbs,lbt⟩:=hgv.opn D.n.1
 obtain⟨wa,wc,ew2⟩:=hG.w.slice
 subst ew2
 obtain⟨w1,hw1⟩: ∃w1,w1=w.alloc (.cells #[.int .i64 ek,.int .i64 ew,.int .i64 ep,.int .i64 o.ed,.int .i64 o.sq,.int .i64 o.lo,.int .i64 o.c.kd,.string ⟨o.c.fam.toArray⟩,.int .i64 o.c.ser,.int .i64 o.c.tok,.string ⟨o.c.cli.toArray⟩,.string ⟨o.c.usr.toArray⟩,.slice oa o.c.sco.length oc,.string ⟨o.c.red.toArray⟩,.string ⟨o.c.cha.toArray⟩,.string ⟨o.c.met.toArray⟩,.string ⟨o.c.ver.toArray⟩,.bool o.c.rf,.int .i64 o.c.edg,.int .i64 m.kd,.int .i64 m.fr,.int .i64 m.vw,.int .i64 m.nr,.int .i64 m.ao,.slice ma m.ops.length mc,.int .i64 m.cm,.int .i64 m.sb,.int .i64 m.ls] 62):=⟨_,rfl⟩
 obtain⟨b1,hb1⟩: ∃b1,b1=w.heap.size:=⟨_,rfl⟩
 have hbw:Below w.heap.size w w1:=by rw[hw1];exact(Below.refl _ _).alloc (Nat.le_refl _) _
 have hE1:Blk w1 b1 62 [.int .i64 ek,.int .i64 ew,.int .i64 ep,.int .i64 o.ed,.int .i64 o.sq,.int .i64 o.lo,.int .i64 o.c.kd,.string ⟨o.c.fam.toArray⟩,.int .i64 o.c.ser,.int .i64 o.c.tok,.string ⟨o.c.cli.toArray⟩,.string ⟨o.c.usr.toArray⟩,.slice oa o.c.sco.length oc,.string ⟨o.c.red.toArray⟩,.string ⟨o.c.cha.toArray⟩,.string ⟨o.c.met.toArray⟩,.string ⟨o.c.ver.toArray⟩,.bool o.c.rf,.int .i64 o.c.edg,.int .i64 m.kd,.int .i64 m.fr,.int .i64 m.vw,.int .i64 m.nr,.int .i64 m.ao,.slice ma m.ops.length mc,.int .i64 m.cm,.int .i64 m.sb,.int .i64 m.ls]:=by rw[hw1,hb1];exact Blk.new w 62 _
 have HE1:=Lib.hid hE1
 have HH:=Lib.hid (And.intro hB (And.intro hG (And.intro hL (And.intro hgv (And.intro D (And.intro he (And.intro hu (And.intro hli (And.intro hbw hb1)))))))))
 obtain⟨i,hin,hi⟩:=mod_lem ew g.n D.n.1 Z103
 have e1:=hE1.cell 1 rfl
 have e2:=hE1.cell 2 rfl
 have e0:=hE1.cell 0 rfl
 have y0:=(hB.below hbw hB.lt).cell 0 rfl
 have y3:=(hB.below hbw hB.lt).cell 3 rfl
 have hnz: ¬(g.n:Int)=0:=by have:=D.n.1;omega
 have hnu:IntKind.u64.wrap (g.n:Int)=(g.n:Int):=by
  exact Z34
 have hw9:=D.way
 have HW1:=Lib.hid hw1
 rw[hw1,hb1] at e0 e1 e2
 rw[hw1] at y0 y3
 clear hB hG hL hgv D he hu hli hbw hE1 lbr lbk lbs lbt hw1 hb1
 go_enter Tryz.func26,Tryz.ntmps26
 go_upto_region 1 with fail
 go_quiet (fail)
 simp only[hi]
 have HB2:Hid (Below w.heap.size w (w1.drewN nq)∧(w1.drewN nq).heap=w1.heap):=Lib.hid ⟨below_drewN HH.out.2.2.2.2.2.2.2.2.1 nq,drewN_heap w1 nq⟩
 rw[←HW1.out] at y0 y3 e0 e1 e2⊢
 rw[←HH.out.2.2.2.2.2.2.2.2.2] at e0 e1 e2⊢
 generalize w1.drewN nq=w2 at*
 have e0:=(cell_eq (congrArg (fun h=>h[b1]?) HB2.out.2) 0).trans e0
 have e2:=(cell_eq (congrArg (fun h=>h[b1]?) HB2.out.2) 2).trans e2
 have y3:=(cell_eq (congrArg (fun h=>h[gp]?) HB2.out.2) 3).trans y3
 clear y0 e1
 go_upto_if 25 with fail
 go_cut [6] from 25 (fun kv wx=> ∃z:Int,kv= .int .i64 z∧(g.way.length=0→z= -1)∧(0<g.way.length→ ∃k:Nat,k<g.way.length∧z=(k:Int))∧ ∃n,wx=w2.drewN n)
 case first=>
  exact Z10
 case rest=>
  trace_state
  obtain⟨z,rfl,hz0,hz1,n3,rfl⟩:=hcut
  have HB3:Hid (Below w.heap.size w (w2.drewN n3)∧(w2.drewN n3).heap=w1.heap):=Lib.hid ⟨below_drewN HB2.out.1 n3,(drewN_heap w2 n3).trans HB2.out.2⟩
  generalize w2.drewN n3=w3 at*
  have e0:w3.cell? ⟨b1,0,none⟩=some (.int .i64 ek):=(cell_eq (congrArg (fun h=>h[b1]?) HB3.out.2) 0).trans (HE1.out.cell 0 rfl)
  have HE3:Hid (Blk w3 b1 62 [.int .i64 ek,.int .i64 ew,.int .i64 ep,.int .i64 o.ed,.int .i64 o.sq,.int .i64 o.lo,.int .i64 o.c.kd,.string ⟨o.c.fam.toArray⟩,.int .i64 o.c.ser,.int .i64 o.c.tok,.string ⟨o.c.cli.toArray⟩,.string ⟨o.c.usr.toArray⟩,.slice oa o.c.sco.length oc,.string ⟨o.c.red.toArray⟩,.string ⟨o.c.cha.toArray⟩,.string ⟨o.c.met.toArray⟩,.string ⟨o.c.ver.toArray⟩,.bool o.c.rf,.int .i64 o.c.edg,.int .i64 m.kd,.int .i64 m.fr,.int .i64 m.vw,.int .i64 m.nr,.int .i64 m.ao,.slice ma m.ops.length mc,.int .i64 m.cm,.int .i64 m.sb,.int .i64 m.ls]):=Lib.hid ((congrArg (fun h=>h[b1]?) HB3.out.2).trans HE1.out)
  have hn7:g.n≤7:=by have:=HH.out.2.2.2.2.1.n;omega
  have HV3:=Lib.hid (HH.out.2.2.2.1.below hn7 HB3.out.1)
  have HI:=Lib.hid (And.intro hin (And.intro hz0 (And.intro hz1 hn7)))
  clear e2 y3 HB2 HW1 hz0 hz1 hnz hnu hw9 hi hn7
  have HFIN:Hid (∀w' g' h' N',Mg c w3 w' gp g'→DI N' (e+1) h' g'→Gon g.n h h' g g'→ ∃g',Mg c w w' gp g'∧DG e h g g'):=Lib.hid fun w' g' h' N' q1 q2 q3=>⟨g',Mg.trans (Lx.refl _ _) (Fr.of_below HB3.out.1) q1,⟨h',N',q2,q3⟩⟩
  obtain⟨ps,br,cr,bk,ck,bs,cs,wv,bt,ct,ov,ss,hB,hG,hL,-⟩:=HV3.out.opn HH.out.2.2.2.2.1.n.1
  obtain⟨x1,_,_,_,_,_⟩:=hG.cells HI.out.1
  have y0:=hB.cell 0 rfl
  have HG:=Lib.hid (And.intro hB (And.intro hG hL))
  have t1:(i:Int)<(g.n:Int):=by have:=HI.out.1;omega
  have HBD:Hid ((g.saves i).length≤100000000∧g.way.length≤100000000):=Lib.hid (by
   have D:=HH.out.2.2.2.2.1
   have h1:=D.sv.n i HI.out.1
   have h2:=D.way
   have h3:=D.le
   omega)
  clear hB hG hL hin
  have k0:(ek==0)=false:=by simp[HKD.out]
  have k1:(ek==1)=false:=by simp[HKD.out]
  have k2:(ek==2)=false:=by simp[HKD.out]
  have k3:(ek==3)=true:=by simp[HKD.out]
  by_cases hlen:g.way.length=0
  case pos=>
   have hz:=HI.out.2.1 hlen
   have HNO:=Lib.hid (gtake_no z w3 HV3.out HH.out.2.2.2.2.1.n.1 (.inl Z11))
   clear hz
   go_wp2_with fail
   refine HNO.out.mono ?_
   rintro e4 w4 ⟨rfl,hb4⟩
   have HLS:Hid (∃g',Mg c w3 w4 gp g'∧DI N (e+1) h g'∧Gon g.n h h g g'):=Lib.hid ⟨g,⟨c,Lx.refl _ _,Fr.of_below hb4,HV3.out.below HI.out.2.2.2 hb4⟩,HH.out.2.2.2.2.1.up HH.out.2.2.2.2.2.1,Gon.refl _ _ _ _ rfl rfl⟩
   clear hb4 hlen
   exact Z3
  case neg=>
   obtain⟨k,hkl,rfl⟩:=HI.out.2.2.1 Z11
   obtain⟨x,hx⟩: ∃x,g.way[k]?=some x:=⟨_,List.getElem?_eq_getElem hkl⟩
   have HTA:=Lib.hid (gtake_any k w3 HV3.out HH.out.2.2.2.2.1.n hx HBD.out.2)
   clear hx hkl hlen
   unfold sdV sdC at HTA
   go_wp2_with fail
   refine HTA.out.mono ?_
   rintro e4 w4 ⟨ua,uc,rfl,c4,hx4,hf4,hv4,-⟩
   have HLS:Hid (∃g',Mg c w3 w4 gp g'∧DI N (e+1) h g'∧Gon g.n h h g g'):=Lib.hid ⟨wayOut g k,⟨c4,hx4,hf4.mono fun l hl=>Z65,hv4⟩,(HH.out.2.2.2.2.1.drop k).up HH.out.2.2.2.2.2.1,Gon.refl _ _ _ _ rfl rfl⟩
   clear hx4 hf4 hv4
   exact Z3
end Go.Proofs.YtdmjegelcdghlaaGreat.Vw
namespace Go.Proofs.YtdmjegelcdghlaaGreat
theorem Z219 {p:Prop}(h:p:=by refine Or.inl ⟨Z31,?_⟩;intro W hSw;(try dsimp only at hSw);(have q3:=hSw.out.1;clear hSw);go_simp;(try with_reducible rfl)):p:=h
end Go.Proofs.YtdmjegelcdghlaaGreat
namespace Go.Proofs.YtdmjegelcdghlaaGreat.Vw
open Go.RowKit Go.Maps
theorem do_dbl {N e li:Nat}{h:Gh Op}{c:Lb}{gp:Nat}{g:Gp Op}(ek ew ep:Int)(o:Op)(oa:Option Addr)(oc:Nat)(m:Mz)(ma:Option Addr)(mc:Nat)(w:World)(hgv:GV c w gp g)(D:DI N e h g)(he:e<160)(hu:TxA li c w (.slice oa o.c.sco.length oc) o)(hli: ¬Fg li)(hkd:ek=4):
 Calls Tryz.prog 26 #[.pointer (some ⟨gp,0,none⟩),.agg #[.int .i64 ek,.int .i64 ew,.int .i64 ep,.int .i64 o.ed,.int .i64 o.sq,.int .i64 o.lo,.int .i64 o.c.kd,.string ⟨o.c.fam.toArray⟩,.int .i64 o.c.ser,.int .i64 o.c.tok,.string ⟨o.c.cli.toArray⟩,.string ⟨o.c.usr.toArray⟩,.slice oa o.c.sco.length oc,.string ⟨o.c.red.toArray⟩,.string ⟨o.c.cha.toArray⟩,.string ⟨o.c.met.toArray⟩,.string ⟨o.c.ver.toArray⟩,.bool o.c.rf,.int .i64 o.c.edg,.int .i64 m.kd,.int .i64 m.fr,.int .i64 m.vw,.int .i64 m.nr,.int .i64 m.ao,.slice ma m.ops.length mc,.int .i64 m.cm,.int .i64 m.sb,.int .i64 m.ls]] w fun e' w'=>e'= .returned (.bool true)∧ ∃g',Mg c w w' gp g'∧DG e h g g':=by
 have HKD:=Lib.hid hkd
 clear hkd
 obtain⟨ps,br,cr,bk,ck,bs,cs,wv,bt,ct,ov,ss,hB,hG,hL,lbr,lbk,lbs,lbt⟩:=hgv.opn D.n.1
 obtain⟨wa,wc,ew2⟩:=hG.w.slice
 subst ew2
 obtain⟨w1,hw1⟩: ∃w1,w1=w.alloc (.cells #[.int .i64 ek,.int .i64 ew,.int .i64 ep,.int .i64 o.ed,.int .i64 o.sq,.int .i64 o.lo,.int .i64 o.c.kd,.string ⟨o.c.fam.toArray⟩,.int .i64 o.c.ser,.int .i64 o.c.tok,.string ⟨o.c.cli.toArray⟩,.string ⟨o.c.usr.toArray⟩,.slice oa o.c.sco.length oc,.string ⟨o.c.red.toArray⟩,.string ⟨o.c.cha.toArray⟩,.string ⟨o.c.met.toArray⟩,.string ⟨o.c.ver.toArray⟩,.bool o.c.rf,.int .i64 o.c.edg,.int .i64 m.kd,.int .i64 m.fr,.int .i64 m.vw,.int .i64 m.nr,.int .i64 m.ao,.slice ma m.ops.length mc,.int .i64 m.cm,.int .i64 m.sb,.int .i64 m.ls] 62):=⟨_,rfl⟩
 obtain⟨b1,hb1⟩: ∃b1,b1=w.heap.size:=⟨_,rfl⟩
 have hbw:Below w.heap.size w w1:=by rw[hw1];exact(Below.refl _ _).alloc (Nat.le_refl _) _
 have hE1:Blk w1 b1 62 [.int .i64 ek,.int .i64 ew,.int .i64 ep,.int .i64 o.ed,.int .i64 o.sq,.int .i64 o.lo,.int .i64 o.c.kd,.string ⟨o.c.fam.toArray⟩,.int .i64 o.c.ser,.int .i64 o.c.tok,.string ⟨o.c.cli.toArray⟩,.string ⟨o.c.usr.toArray⟩,.slice oa o.c.sco.length oc,.string ⟨o.c.red.toArray⟩,.string ⟨o.c.cha.toArray⟩,.string ⟨o.c.met.toArray⟩,.string ⟨o.c.ver.toArray⟩,.bool o.c.rf,.int .i64 o.c.edg,.int .i64 m.kd,.int .i64 m.fr,.int .i64 m.vw,.int .i64 m.nr,.int .i64 m.ao,.slice ma m.ops.length mc,.int .i64 m.cm,.int .i64 m.sb,.int .i64 m.ls]:=by rw[hw1,hb1];exact Blk.new w 62 _
 have HE1:=Lib.hid hE1
 have HH:=Lib.hid (And.intro hB (And.intro hG (And.intro hL (And.intro hgv (And.intro D (And.intro he (And.intro hu (And.intro hli (And.intro hbw hb1)))))))))
 obtain⟨i,hin,hi⟩:=mod_lem ew g.n D.n.1 Z103
 have e1:=hE1.cell 1 rfl
 have e2:=hE1.cell 2 rfl
 have e0:=hE1.cell 0 rfl
 have y0:=(hB.below hbw hB.lt).cell 0 rfl
 have y3:=(hB.below hbw hB.lt).cell 3 rfl
 have hnz: ¬(g.n:Int)=0:=by have:=D.n.1;omega
 have hnu:IntKind.u64.wrap (g.n:Int)=(g.n:Int):=by
  exact Z34
 have hw9:=D.way
 have HW1:=Lib.hid hw1
 rw[hw1,hb1] at e0 e1 e2
 rw[hw1] at y0 y3
 clear hB hG hL hgv D he hu hli hbw hE1 lbr lbk lbs lbt hw1 hb1
 go_enter Tryz.func26,Tryz.ntmps26
 go_upto_region 1 with fail
 go_quiet (fail)
 simp only[hi]
 have HB2:Hid (Below w.heap.size w (w1.drewN nq)∧(w1.drewN nq).heap=w1.heap):=Lib.hid ⟨below_drewN HH.out.2.2.2.2.2.2.2.2.1 nq,drewN_heap w1 nq⟩
 rw[←HW1.out] at y0 y3 e0 e1 e2⊢
 rw[←HH.out.2.2.2.2.2.2.2.2.2] at e0 e1 e2⊢
 generalize w1.drewN nq=w2 at*
 have e0:=(cell_eq (congrArg (fun h=>h[b1]?) HB2.out.2) 0).trans e0
 have e2:=(cell_eq (congrArg (fun h=>h[b1]?) HB2.out.2) 2).trans e2
 have y3:=(cell_eq (congrArg (fun h=>h[gp]?) HB2.out.2) 3).trans y3
 clear y0 e1
 go_upto_if 25 with fail
 go_cut [6] from 25 (fun kv wx=> ∃z:Int,kv= .int .i64 z∧(g.way.length=0→z= -1)∧(0<g.way.length→ ∃k:Nat,k<g.way.length∧z=(k:Int))∧ ∃n,wx=w2.drewN n)
 case first=>
  exact Z10
 case rest=>
  trace_state
  obtain⟨z,rfl,hz0,hz1,n3,rfl⟩:=hcut
  have HB3:Hid (Below w.heap.size w (w2.drewN n3)∧(w2.drewN n3).heap=w1.heap):=Lib.hid ⟨below_drewN HB2.out.1 n3,(drewN_heap w2 n3).trans HB2.out.2⟩
  generalize w2.drewN n3=w3 at*
  have e0:w3.cell? ⟨b1,0,none⟩=some (.int .i64 ek):=(cell_eq (congrArg (fun h=>h[b1]?) HB3.out.2) 0).trans (HE1.out.cell 0 rfl)
  have HE3:Hid (Blk w3 b1 62 [.int .i64 ek,.int .i64 ew,.int .i64 ep,.int .i64 o.ed,.int .i64 o.sq,.int .i64 o.lo,.int .i64 o.c.kd,.string ⟨o.c.fam.toArray⟩,.int .i64 o.c.ser,.int .i64 o.c.tok,.string ⟨o.c.cli.toArray⟩,.string ⟨o.c.usr.toArray⟩,.slice oa o.c.sco.length oc,.string ⟨o.c.red.toArray⟩,.string ⟨o.c.cha.toArray⟩,.string ⟨o.c.met.toArray⟩,.string ⟨o.c.ver.toArray⟩,.bool o.c.rf,.int .i64 o.c.edg,.int .i64 m.kd,.int .i64 m.fr,.int .i64 m.vw,.int .i64 m.nr,.int .i64 m.ao,.slice ma m.ops.length mc,.int .i64 m.cm,.int .i64 m.sb,.int .i64 m.ls]):=Lib.hid ((congrArg (fun h=>h[b1]?) HB3.out.2).trans HE1.out)
  have hn7:g.n≤7:=by have:=HH.out.2.2.2.2.1.n;omega
  have HV3:=Lib.hid (HH.out.2.2.2.1.below hn7 HB3.out.1)
  have HI:=Lib.hid (And.intro hin (And.intro hz0 (And.intro hz1 hn7)))
  clear e2 y3 HB2 HW1 hz0 hz1 hnz hnu hw9 hi hn7
  have HFIN:Hid (∀w' g' h' N',Mg c w3 w' gp g'→DI N' (e+1) h' g'→Gon g.n h h' g g'→ ∃g',Mg c w w' gp g'∧DG e h g g'):=Lib.hid fun w' g' h' N' q1 q2 q3=>⟨g',Mg.trans (Lx.refl _ _) (Fr.of_below HB3.out.1) q1,⟨h',N',q2,q3⟩⟩
  obtain⟨ps,br,cr,bk,ck,bs,cs,wv,bt,ct,ov,ss,hB,hG,hL,-⟩:=HV3.out.opn HH.out.2.2.2.2.1.n.1
  obtain⟨x1,_,_,_,_,_⟩:=hG.cells HI.out.1
  have y0:=hB.cell 0 rfl
  have HG:=Lib.hid (And.intro hB (And.intro hG hL))
  have t1:(i:Int)<(g.n:Int):=by have:=HI.out.1;omega
  have HBD:Hid ((g.saves i).length≤100000000∧g.way.length≤100000000):=Lib.hid (by
   have D:=HH.out.2.2.2.2.1
   have h1:=D.sv.n i HI.out.1
   have h2:=D.way
   have h3:=D.le
   omega)
  clear hB hG hL hin
  have k0:(ek==0)=false:=by simp[HKD.out]
  have k1:(ek==1)=false:=by simp[HKD.out]
  have k2:(ek==2)=false:=by simp[HKD.out]
  have k3:(ek==3)=false:=by simp[HKD.out]
  have k4:(ek==4)=true:=by simp[HKD.out]
  have HLS0:Hid (∃g',Mg c w3 w3 gp g'∧DI N (e+1) h g'∧Gon g.n h h g g'):=Lib.hid ⟨g,⟨c,Lx.refl _ _,Fr.refl _ _ _,HV3.out⟩,HH.out.2.2.2.2.1.up HH.out.2.2.2.2.2.1,Gon.refl _ _ _ _ rfl rfl⟩
  by_cases hlen:g.way.length=0
  case pos=>
   have HLS:=HLS0
   have hz:=HI.out.2.1 hlen
   have k9: ¬(0:Int)≤z:=by omega
   have k9b:decide ((0:Int)≤z)=false:=by rw[decide_eq_false_iff_not];omega
   clear hz hlen
   exact Z3
  case neg=>
   obtain⟨k,hkl,rfl⟩:=HI.out.2.2.1 Z11
   obtain⟨x,hx⟩: ∃x,g.way[k]?=some x:=⟨_,List.getElem?_eq_getElem hkl⟩
   have hG:=HG.out.2.1
   have hB:=HG.out.1
   obtain⟨bw,wcw,u,ew,hbw,hcw,hin,hcl,-⟩:=Row.at (sdE_ok 3) hG.w hx
   subst ew
   have y3:=hB.cell 3 rfl
   have hin':SdI 3 c w3 u x:=hin
   obtain⟨ua,uc,eu⟩:=hin'.s.slice
   subst eu
   by_cases h100:g.way.length<100
   case neg=>
    have HLS:=HLS0
    have k10: ¬(g.way.length:Int)<100:=by omega
    clear hin hin' hcl hx hkl hlen hbw hcw hG hB
    exact Z3
   case pos=>
    have k10:(g.way.length:Int)<100:=by omega
    have t1k:(k:Int)<(g.way.length:Int):=by omega
    have HX:=Lib.hid (And.intro hx (And.intro hcl (And.intro hbw (And.intro hcw hin'))))
    have HL:=Lib.hid (And.intro hkl h100)
    clear hin hin' hcl hx hkl hlen hbw hcw hG hB
    go_upto_region 21 with fail
    refine wp_region_K (fun W=>Hid (W.cell? ⟨gp,3,none⟩=some (.slice (some ⟨bw,0,none⟩) g.way.length wcw)∧ ∀(j:Nat) v,(sdC x (.slice ua x.m.ops.length uc))[j]?=some v→W.cell? ⟨bw,k*10+j,none⟩=some v)) 13 Z27 ?_ (fun hHeld1=> ?_)
    ·exact Lib.hid ⟨y3,HX.out.2.1⟩
    refine tkP 0 ?_ (y:=Z189)
    try simp only[ap]
    refine tkK 1 ?_ (y:=Z7)
    try simp only[ap]
    refine tkK 2 ?_ (y:=Z7)
    try simp only[ap]
    refine tkK 3 ?_ (y:=Z7)
    try simp only[ap]
    refine tkK 4 ?_ (y:=Z219)
    try simp only[ap]
    refine tkK 5 ?_ (y:=Z7)
    try simp only[ap]
    refine tkK 6 ?_ (y:=Z7)
    try simp only[ap]
    refine tkK 7 ?_ (y:=Z7)
    try simp only[ap]
    refine tkK 8 ?_ (y:=Z219)
    try simp only[ap]
    refine tkK 9 ?_ (y:=Z7)
    try simp only[ap]
    refine tkK 10 ?_ (y:=Z7)
    try simp only[ap]
    refine tkK 11 ?_ (y:=by refine Or.inl ⟨Z31,?_⟩;intro W hSw;(try dsimp only at hSw);(have hz:=hSw.out.2;clear hSw;have z0:=hz 0 _ rfl;have z1:=hz 1 _ rfl;have z2:=hz 2 _ rfl;have z3:=hz 3 _ rfl;have z4:=hz 4 _ rfl;have z5:=hz 5 _ rfl;have z6:=hz 6 _ rfl;have z7:=hz 7 _ rfl;have z8:=hz 8 _ rfl;have z9:=hz 9 _ rfl;(try rw[Nat.add_zero] at z0);clear hz);go_simp;(try with_reducible rfl))
    try simp only[ap]
    refine wpAnyK_ready (rs:= [12]) Z27 Z93 ?_
    refine AllReadyK.cons (o:= ?oi13) ?hi13 (fun K hK=> ?hs13) AllReadyK.nil
    case hi13=>exact Z20
    go_simp
    have HBA:Hid (Below w3.heap.size w3 (w3.drew.alloc (.cells #[.int .i64 (x.to:Int),.int .i64 (x.m.kd:Int),.int .i64 (x.m.fr:Int),.int .i64 (x.m.vw:Int),.int .i64 (x.m.nr:Int),.int .i64 (x.m.ao:Int),.slice ua x.m.ops.length uc,.int .i64 (x.m.cm:Int),.int .i64 (x.m.sb:Int),.int .i64 (x.m.ls:Int)] 53))):=Lib.hid ((Below.refl _ _).drew.alloc (Nat.le_refl _) _)
    refine hK.out _ _ ?_ (fun hHeld3=> ?_)
    ·exact Lib.hid ⟨(cell_eq (HBA.out.block gp HG.out.1.lt) 3).trans y3,fun j v hj=>(cell_eq (HBA.out.block bw HX.out.2.2.1) _).trans (HX.out.2.1 j v hj)⟩
    clear hK
    try simp only[ap]
    refine wpAnyK_lasts [14,15,16] Z27 Z31 Z31 ?_
    simp only[List.filterMap_cons,List.filterMap_nil,List.getElem?_toArray,List.getElem?_cons_succ,List.getElem?_cons_zero]
    have hn7:=HI.out.2.2.2
    have hGA:=HG.out.2.1.keep hn7 (Lx.refl w3 c) fun j hj _=>HBA.out.block j hj
    have hBA:=HG.out.1.below HBA.out HG.out.1.lt
    have hiA:SdI 3 c (w3.drew.alloc (.cells #[.int .i64 (x.to:Int),.int .i64 (x.m.kd:Int),.int .i64 (x.m.fr:Int),.int .i64 (x.m.vw:Int),.int .i64 (x.m.nr:Int),.int .i64 (x.m.ao:Int),.slice ua x.m.ops.length uc,.int .i64 (x.m.cm:Int),.int .i64 (x.m.sb:Int),.int .i64 (x.m.ls:Int)] 53)) (.slice ua x.m.ops.length uc) x:=(sdE_ok 3).keep _ _ _ _ _ _ HX.out.2.2.2.2 (Lx.refl w3 c) fun j hj _=>HBA.out.block j hj
    obtain⟨v7,w7,hrun,hx7,hr7,hf7,-⟩:=hGA.w.app (t:=44) (ty:=44) (by_:=96) (xv:= .slice (some ⟨w3.drew.heap.size,0,none⟩) 1 1) (m:= [x]) (sdE_ok 3) Tryz.underlying44 sd_row rfl ⟨[.slice ua x.m.ops.length uc],Inn.one (E:=sdE 3) hiA,by rw[flat_single];exact rd_new w3.drew 10 1 _ 53 rfl⟩ (fun e=>by have:204=3:=e;omega) (by have h1:=HL.out;rw[List.length_singleton];omega) (by have h1:=HL.out;rw[List.length_singleton];unfold maxLen;omega)
    obtain⟨a7,c7,e7⟩:=hr7.slice
    obtain⟨n7,hn7e⟩: ∃n7,n7=(g.way++ [x]).length:=⟨_,rfl⟩
    rw[←hn7e] at e7
    subst e7
    have HRUN:=Lib.hid hrun
    have h9:=GV.w1 HG.out.2.2.1 hBA hGA hn7 hx7 hf7 hr7
    have HLS:Hid (∃g',Mg c w3 (w7.setCell ⟨gp,3,none⟩ (.slice a7 n7 c7)) gp g'∧DI N (e+1) h g'∧Gon g.n h h g g'):=Lib.hid ⟨evDbl g x,⟨_,fun j hj=>hx7 j (Nat.lt_of_lt_of_le hj HBA.out.size),(Fr.of_below HBA.out).trans (Lx.refl _ _) (h9.2.1.mono fun l hl=>Z65),h9.1,ps,_,_,_,_,_,_,ss,h9.2.2.1,h9.2.2.2⟩,HH.out.2.2.2.2.1.dbl HH.out.2.2.2.2.2.1 HX.out.1,Gon.refl _ _ _ _ rfl rfl⟩
    have hb7:=hf7.block gp hBA.lt (by rw[HG.out.2.2.1];decide)
    have z3:=(cell_eq hb7 3).trans (hBA.cell 3 rfl)
    have zf:=(frz_eq hb7 3).trans (hBA.frozen 3)
    clear hGA hBA hiA hrun hx7 hr7 hf7 h9 hb7 hn7e hn7 hHeld1 hHeld3
    refine wpList_execA rfl (execA (.tmp 116) (.tmp 124) 44 rfl rfl rfl HRUN.out) ?_
    try simp only[ap]
    refine wpList_step fun K hK=> ?_
    rw[if_pos Z31]
    go_simp
    refine hK _ _ ?_
    clear hK
    try simp only[ap]
    refine wpList_step fun K hK=> ?_
    rw[if_pos Z31]
    go_simp
    refine hK _ _ ?_
    clear hK
    try simp only[ap]
    refine wpList_step fun K hK=> ?_
    rw[if_pos Z31]
    go_simp
    refine hK _ _ ?_
    clear hK
    try simp only[ap]
    clear HRUN z3 zf
    generalize w7.setCell ⟨gp,3,none⟩ (.slice a7 n7 c7)=w8 at*
    exact Z3
end Go.Proofs.YtdmjegelcdghlaaGreat.Vw
