/-
  Chapter 22: an event of the group: what one has is kept anew.
-/
import Derived.Test.YtdmjegelcdghlaaGreatGGen
import Derived.Test.YtdmjegelcdghlaaGreatGKw
import Derived.Deep.MidRow
import Derived.Test.YtdmjegelcdghlaaGreatGKn
import Derived.Test.YtdmjegelcdghlaaGreatGKt
import Derived.Test.YtdmjegelcdghlaaGreatGLg
set_option maxRecDepth 100000
set_option maxHeartbeats 64000000
set_option linter.unusedVariables false
set_option linter.unusedSimpArgs false
namespace Go.Proofs.YtdmjegelcdghlaaGreat
theorem Z193 {p:Prop}(h:p:=by refine Or.inl ⟨Z31,?_⟩;intro W hSw;(try dsimp only at hSw);(obtain⟨q0,q1,q2,q3⟩:=hSw.out;clear hSw);go_simp;(try with_reducible rfl)):p:=h
end Go.Proofs.YtdmjegelcdghlaaGreat
namespace Go.Proofs.YtdmjegelcdghlaaGreat.Vw
open Go.RowKit Go.Maps
theorem flat_set5 {α:Type}{E:Ek α}(hE:E.Ok)(h5:E.sz=5){a:α}{u c0 c1 c2 c3 c4:Value}(hc:E.cel a u= [c0,c1,c2,c3,c4]): ∀(l:List α) (vs:List Value) (i:Nat),vs.length=l.length→i<l.length→(((((flat E l vs).set (i*5) c0).set (i*5+1) c1).set (i*5+2) c2).set (i*5+3) c3).set (i*5+4) c4=flat E (l.set i a) (vs.set i u)
 | [],_,_,_,hi=>by simp at hi
 |b::l,[],_,h,_=>by simp at h
 |b::l,v::vs,0,h,hi=>by
  have h6:=hE.len b v
  rw[h5] at h6
  obtain⟨d0,d1,d2,d3,d4,e⟩: ∃d0 d1 d2 d3 d4,E.cel b v= [d0,d1,d2,d3,d4]:=by
   obtain⟨L,hL⟩: ∃L,L=E.cel b v:=⟨_,rfl⟩
   rw[←hL] at h6⊢
   clear hL
   rcases L with _|⟨d0,_|⟨d1,_|⟨d2,_|⟨d3,_|⟨d4,_|⟨d5,l⟩⟩⟩⟩⟩⟩<;>simp at h6
   exact⟨d0,d1,d2,d3,d4,rfl⟩
  unfold flat
  rw[List.set_cons_zero,List.set_cons_zero,List.zipWith_cons_cons,List.zipWith_cons_cons,List.flatten_cons,List.flatten_cons,hc,e]
  rfl
 |b::l,v::vs,i+1,h,hi=>by
  have ih:=flat_set5 hE h5 hc l vs i (by simpa using h) (by simpa using hi)
  have h6:=hE.len b v
  rw[h5] at h6
  have hs: ∀(B:List Value) (n:Nat) (x:Value),(E.cel b v++B).set (5+n) x=E.cel b v++B.set n x:=fun B n x=>by
   rw[List.set_append_right _ _ Z11,h6,Nat.add_sub_cancel_left]
  have hf: ∀(l:List α) (vs:List Value),flat E (b::l) (v::vs)=E.cel b v++flat E l vs:=fun l vs=>by
   unfold flat
   rw[List.zipWith_cons_cons,List.flatten_cons]
  rw[List.set_cons_succ,List.set_cons_succ,hf,hf,←ih]
  rw[show(i+1)*5=5+i*5 by omega,show 5+i*5+1=5+(i*5+1) by omega,show 5+i*5+2=5+(i*5+2) by omega,show 5+i*5+3=5+(i*5+3) by omega,show 5+i*5+4=5+(i*5+4) by omega,hs,hs,hs,hs,hs]
theorem Row.set5 {α:Type}{E:Ek α}(hE:E.Ok)(h5:E.sz=5){c:Lb}{lo:Nat}{W:World}{g cap:Nat}{l:List α}(h:Row E c lo W (.slice (some ⟨g,0,none⟩) l.length cap) l){i:Nat}(hi:i<l.length){a:α}{u c0 c1 c2 c3 c4:Value}(hc:E.cel a u= [c0,c1,c2,c3,c4])(hlo: ¬E.lab lo)(hcg:c g=lo)(hin:E.inn c W u a):
 Row E c lo (((((W.setCell ⟨g,i*5,none⟩ c0).setCell ⟨g,i*5+1,none⟩ c1).setCell ⟨g,i*5+2,none⟩ c2).setCell ⟨g,i*5+3,none⟩ c3).setCell ⟨g,i*5+4,none⟩ c4) (.slice (some ⟨g,0,none⟩) l.length cap) (l.set i a):=by
 obtain⟨⟨vs,h1,h2⟩,h3⟩:=h
 have hs:=((((((Ps.refl g W).set (i*5) c0).set (i*5+1) c1).set (i*5+2) c2).set (i*5+3) c3).set (i*5+4) c4)
 have h4:=((((((h2.stored (i*5) c0).1.stored (i*5+1) c1).1.stored (i*5+2) c2).1.stored (i*5+3) c3).1).stored (i*5+4) c4).1
 rw[flat_set5 hE h5 hc l vs i h1.1 hi] at h4
 have hk: ∀k,k<W.heap.size→E.lab (c k)→(((((W.setCell ⟨g,i*5,none⟩ c0).setCell ⟨g,i*5+1,none⟩ c1).setCell ⟨g,i*5+2,none⟩ c2).setCell ⟨g,i*5+3,none⟩ c3).setCell ⟨g,i*5+4,none⟩ c4).heap[k]?=W.heap[k]?:=fun k hk hl=>hs.heap k fun e=>hlo (by rw[e,hcg] at hl;exact hl)
 refine⟨⟨vs.set i u,⟨by simpa using h1.1,fun k x v hx hv=> ?_⟩,?_⟩,h3⟩
 ·rw[List.getElem?_set] at hx hv
  by_cases e:i=k
  ·rw[if_pos e,if_pos Z11] at hx
   rw[if_pos e,if_pos (by have:=h1.1;omega)] at hv
   cases hx;cases hv
   exact hE.keep c c W _ u a hin (Lx.refl _ _) hk
  ·rw[if_neg e] at hx hv
   exact hE.keep c c W _ v x (h1.2 k x v hx hv) (Lx.refl _ _) hk
 ·rw[List.length_set];exact h4
theorem do_keep {N e li:Nat}{h:Gh Op}{c:Lb}{gp:Nat}{g:Gp Op}(ek ew ep:Int)(o:Op)(oa:Option Addr)(oc:Nat)(m:Mz)(ma:Option Addr)(mc:Nat)(w:World)(hgv:GV c w gp g)(D:DI N e h g)(he:e<160)(hu:TxA li c w (.slice oa o.c.sco.length oc) o)(hli: ¬Fg li)(hkd:ek=6):
 Calls Tryz.prog 26 #[.pointer (some ⟨gp,0,none⟩),.agg #[.int .i64 ek,.int .i64 ew,.int .i64 ep,.int .i64 o.ed,.int .i64 o.sq,.int .i64 o.lo,.int .i64 o.c.kd,.string ⟨o.c.fam.toArray⟩,.int .i64 o.c.ser,.int .i64 o.c.tok,.string ⟨o.c.cli.toArray⟩,.string ⟨o.c.usr.toArray⟩,.slice oa o.c.sco.length oc,.string ⟨o.c.red.toArray⟩,.string ⟨o.c.cha.toArray⟩,.string ⟨o.c.met.toArray⟩,.string ⟨o.c.ver.toArray⟩,.bool o.c.rf,.int .i64 o.c.edg,.int .i64 m.kd,.int .i64 m.fr,.int .i64 m.vw,.int .i64 m.nr,.int .i64 m.ao,.slice ma m.ops.length mc,.int .i64 m.cm,.int .i64 m.sb,.int .i64 m.ls]] w fun e' w'=>e'= .returned (.bool true)∧ ∃g',Mg c w w' gp g'∧DG e h g g':=by
 have HKD:=Lib.hid hkd
 clear hkd
 obtain⟨ps,br,cr,bk,ck,bs,cs,wv,bt,ct,ov,ss,hB,hG,hL,lbr,lbk,lbs,lbt⟩:=hgv.opn D.n.1
 obtain⟨wa,wc,ew2⟩:=hG.w.slice
 subst ew2
 obtain⟨w1,hw1⟩: ∃w1,w1=w.alloc (.cells #[.int .i64 ek,.int .i64 ew,.int .i64 ep,.int .i64 o.ed,.int .i64 o.sq,.int .i64 o.lo,.int .i64 o.c.kd,.string ⟨o.c.fam.toArray⟩,.int .i64 o.c.ser,.int .i64 o.c.tok,.string ⟨o.c.cli.toArray⟩,.string ⟨o.c.usr.toArray⟩,.slice oa o.c.sco.length oc,.string ⟨o.c.red.toArray⟩,.string ⟨o.c.cha.toArray⟩,.string ⟨o.c.met.toArray⟩,.string ⟨o.c.ver.toArray⟩,.bool o.c.rf,.int .i64 o.c.edg,.int .i64 m.kd,.int .i64 m.fr,.int .i64 m.vw,.int .i64 m.nr,.int .i64 m.ao,.slice ma m.ops.length mc,.int .i64 m.cm,.int .i64 m.sb,.int .i64 m.ls] 62):=⟨_,rfl⟩
 obtain⟨b1,hb1⟩: ∃b1,b1=w.heap.size:=⟨_,rfl⟩
 have hbw:Below w.heap.size w w1:=by rw[hw1];exact(Below.refl _ _).alloc (Nat.le_refl _) _
 have hE1:Blk w1 b1 62 [.int .i64 ek,.int .i64 ew,.int .i64 ep,.int .i64 o.ed,.int .i64 o.sq,.int .i64 o.lo,.int .i64 o.c.kd,.string ⟨o.c.fam.toArray⟩,.int .i64 o.c.ser,.int .i64 o.c.tok,.string ⟨o.c.cli.toArray⟩,.string ⟨o.c.usr.toArray⟩,.slice oa o.c.sco.length oc,.string ⟨o.c.red.toArray⟩,.string ⟨o.c.cha.toArray⟩,.string ⟨o.c.met.toArray⟩,.string ⟨o.c.ver.toArray⟩,.bool o.c.rf,.int .i64 o.c.edg,.int .i64 m.kd,.int .i64 m.fr,.int .i64 m.vw,.int .i64 m.nr,.int .i64 m.ao,.slice ma m.ops.length mc,.int .i64 m.cm,.int .i64 m.sb,.int .i64 m.ls]:=by rw[hw1,hb1];exact Blk.new w 62 _
 have HE1:=Lib.hid hE1
 have HH:=Lib.hid (And.intro hB (And.intro hG (And.intro hL (And.intro hgv (And.intro D (And.intro he (And.intro hu (And.intro hli (And.intro hbw hb1)))))))))
 obtain⟨i,hin,hi⟩:=mod_lem ew g.n D.n.1 Z103
 have e1:=hE1.cell 1 rfl
 have e2:=hE1.cell 2 rfl
 have e0:=hE1.cell 0 rfl
 have y0:=(hB.below hbw hB.lt).cell 0 rfl
 have y3:=(hB.below hbw hB.lt).cell 3 rfl
 have hnz: ¬(g.n:Int)=0:=by have:=D.n.1;omega
 have hnu:IntKind.u64.wrap (g.n:Int)=(g.n:Int):=by
  exact Z34
 have hw9:=D.way
 have HW1:=Lib.hid hw1
 rw[hw1,hb1] at e0 e1 e2
 rw[hw1] at y0 y3
 clear hB hG hL hgv D he hu hli hbw hE1 lbr lbk lbs lbt hw1 hb1
 go_enter Tryz.func26,Tryz.ntmps26
 go_upto_region 1 with fail
 go_quiet (fail)
 simp only[hi]
 have HB2:Hid (Below w.heap.size w (w1.drewN nq)∧(w1.drewN nq).heap=w1.heap):=Lib.hid ⟨below_drewN HH.out.2.2.2.2.2.2.2.2.1 nq,drewN_heap w1 nq⟩
 rw[←HW1.out] at y0 y3 e0 e1 e2⊢
 rw[←HH.out.2.2.2.2.2.2.2.2.2] at e0 e1 e2⊢
 generalize w1.drewN nq=w2 at*
 have e0:=(cell_eq (congrArg (fun h=>h[b1]?) HB2.out.2) 0).trans e0
 have e2:=(cell_eq (congrArg (fun h=>h[b1]?) HB2.out.2) 2).trans e2
 have y3:=(cell_eq (congrArg (fun h=>h[gp]?) HB2.out.2) 3).trans y3
 clear y0 e1
 go_upto_if 25 with fail
 go_cut [6] from 25 (fun kv wx=> ∃z:Int,kv= .int .i64 z∧(g.way.length=0→z= -1)∧(0<g.way.length→ ∃k:Nat,k<g.way.length∧z=(k:Int))∧ ∃n,wx=w2.drewN n)
 case first=>
  exact Z10
 case rest=>
  trace_state
  obtain⟨z,rfl,hz0,hz1,n3,rfl⟩:=hcut
  have HB3:Hid (Below w.heap.size w (w2.drewN n3)∧(w2.drewN n3).heap=w1.heap):=Lib.hid ⟨below_drewN HB2.out.1 n3,(drewN_heap w2 n3).trans HB2.out.2⟩
  generalize w2.drewN n3=w3 at*
  have e0:w3.cell? ⟨b1,0,none⟩=some (.int .i64 ek):=(cell_eq (congrArg (fun h=>h[b1]?) HB3.out.2) 0).trans (HE1.out.cell 0 rfl)
  have HE3:Hid (Blk w3 b1 62 [.int .i64 ek,.int .i64 ew,.int .i64 ep,.int .i64 o.ed,.int .i64 o.sq,.int .i64 o.lo,.int .i64 o.c.kd,.string ⟨o.c.fam.toArray⟩,.int .i64 o.c.ser,.int .i64 o.c.tok,.string ⟨o.c.cli.toArray⟩,.string ⟨o.c.usr.toArray⟩,.slice oa o.c.sco.length oc,.string ⟨o.c.red.toArray⟩,.string ⟨o.c.cha.toArray⟩,.string ⟨o.c.met.toArray⟩,.string ⟨o.c.ver.toArray⟩,.bool o.c.rf,.int .i64 o.c.edg,.int .i64 m.kd,.int .i64 m.fr,.int .i64 m.vw,.int .i64 m.nr,.int .i64 m.ao,.slice ma m.ops.length mc,.int .i64 m.cm,.int .i64 m.sb,.int .i64 m.ls]):=Lib.hid ((congrArg (fun h=>h[b1]?) HB3.out.2).trans HE1.out)
  have hn7:g.n≤7:=by have:=HH.out.2.2.2.2.1.n;omega
  have HV3:=Lib.hid (HH.out.2.2.2.1.below hn7 HB3.out.1)
  have HI:=Lib.hid (And.intro hin (And.intro hz0 (And.intro hz1 hn7)))
  clear e2 y3 HB2 HW1 hz0 hz1 hnz hnu hw9 hi hn7
  have HFIN:Hid (∀w' g' h' N',Mg c w3 w' gp g'→DI N' (e+1) h' g'→Gon g.n h h' g g'→ ∃g',Mg c w w' gp g'∧DG e h g g'):=Lib.hid fun w' g' h' N' q1 q2 q3=>⟨g',Mg.trans (Lx.refl _ _) (Fr.of_below HB3.out.1) q1,⟨h',N',q2,q3⟩⟩
  obtain⟨ps,br,cr,bk,ck,bs,cs,wv,bt,ct,ov,ss,hB,hG,hL,-⟩:=HV3.out.opn HH.out.2.2.2.2.1.n.1
  obtain⟨x1,_,_,_,_,_⟩:=hG.cells HI.out.1
  have y0:=hB.cell 0 rfl
  have HG:=Lib.hid (And.intro hB (And.intro hG hL))
  have t1:(i:Int)<(g.n:Int):=by have:=HI.out.1;omega
  have HBD:Hid ((g.saves i).length≤100000000∧g.way.length≤100000000):=Lib.hid (by
   have D:=HH.out.2.2.2.2.1
   have h1:=D.sv.n i HI.out.1
   have h2:=D.way
   have h3:=D.le
   omega)
  clear hB hG hL hin
  have k0:(ek==0)=false:=by simp[HKD.out]
  have k1:(ek==1)=false:=by simp[HKD.out]
  have k2:(ek==2)=false:=by simp[HKD.out]
  have k3:(ek==3)=false:=by simp[HKD.out]
  have k4:(ek==4)=false:=by simp[HKD.out]
  have k5:(ek==5)=false:=by simp[HKD.out]
  have k6:(ek==6)=true:=by simp[HKD.out]
  have D:=HH.out.2.2.2.2.1
  have hkl:=(D.logs HI.out.1).1
  have HKP:=Lib.hid (kept_any (i:=i) (ps i) w3.drew ((HG.out.2.1.rp i HI.out.1).keep (Lx.refl w3 c) fun _ _ _=>rfl) Z11)
  obtain⟨bk2,ck2,ku,ekk,hbk,hcbk,-,hkc,hkf⟩:=Row.at (ktE_ok 1) HG.out.2.1.k (range_at g.kept HI.out.1)
  rw[range_len] at ekk
  cases ekk
  have HKC:Hid (bk<w3.heap.size∧c bk=202∧(∀(j:Nat) v,((ktE 1).cel (g.kept i) ku)[j]?=some v→w3.cell? ⟨bk,i*5+j,none⟩=some v)∧ ∀j,w3.frozen? ⟨bk,j,none⟩=false):=Lib.hid ⟨hbk,hcbk,hkc,hkf⟩
  obtain⟨_,xs2,_,_,fs2,_⟩:=GP.cells HG.out.2.1 HI.out.1
  have HS2:=Lib.hid (And.intro xs2 fs2)
  clear hbk hcbk hkc hkf xs2 fs2
  have y1:=HG.out.1.cell 1 rfl
  have y2:=HG.out.1.cell 2 rfl
  clear D hkl
  go_upto_region 25 with fail
  refine wp_region_K (fun W=>Hid (W.cell? ⟨gp,0,none⟩=some (.slice (some ⟨br,0,none⟩) g.n cr)∧W.cell? ⟨gp,1,none⟩=some (.slice (some ⟨bk,0,none⟩) g.n ck)∧W.cell? ⟨gp,2,none⟩=some (.slice (some ⟨bs,0,none⟩) g.n cs)∧W.cell? ⟨br,i,none⟩=some (.pointer (some ⟨ps i,0,none⟩)))) 21 Z27 ?_ (fun hHeld1=> ?_)
  ·exact Lib.hid ⟨y0,y1,y2,x1⟩
  refine tkK 0 ?_ (y:=Z7)
  try simp only[ap]
  refine tkK 1 ?_ (y:=Z7)
  try simp only[ap]
  refine tkK 2 ?_ (y:=Z7)
  try simp only[ap]
  refine tkK 3 ?_ (y:=Z193)
  try simp only[ap]
  refine tkK 4 ?_ (y:=Z7)
  try simp only[ap]
  refine tkK 5 ?_ (y:=Z7)
  try simp only[ap]
  refine tkK 6 ?_ (y:=Z7)
  try simp only[ap]
  refine tkK 7 ?_ (y:=Z7)
  try simp only[ap]
  refine tkK 8 ?_ (y:=Z193)
  try simp only[ap]
  refine tkK 9 ?_ (y:=Z7)
  try simp only[ap]
  refine tkK 10 ?_ (y:=Z7)
  try simp only[ap]
  refine tkK 11 ?_ (y:=Z7)
  try simp only[ap]
  refine tkK 12 ?_ (y:=Z7)
  try simp only[ap]
  refine tkK 13 ?_ (y:=Z193)
  try simp only[ap]
  refine tkK 14 ?_ (y:=Z7)
  try simp only[ap]
  refine tkK 15 ?_ (y:=Z7)
  try simp only[ap]
  refine tkK 16 ?_ (y:=Z193)
  try simp only[ap]
  refine wpAnyK_ready (rs:= [17]) Z27 Z93 ?_
  refine AllReadyK.cons (o:= ?oi18) ?hi18 (fun K hK=> ?hs18) AllReadyK.nil
  case hi18=>exact Z20
  go_simp
  refine HKP.out.mono ?_
  rintro e4 w4 ⟨v4,rfl,hn4,hb4⟩
  obtain⟨a4,c4,e4⟩:=hn4.slice
  subst e4
  have HN4:=Lib.hid (And.intro hn4 ((Below.refl w3.heap.size w3).drew.trans hb4))
  clear hn4 hb4
  have z0:w4.cell? ⟨bk,i*5,none⟩=_:=(cell_eq (HN4.out.2.block bk HKC.out.1) _).trans (HKC.out.2.2.1 0 _ rfl)
  have z1:w4.cell? ⟨bk,i*5+1,none⟩=_:=(cell_eq (HN4.out.2.block bk HKC.out.1) _).trans (HKC.out.2.2.1 1 _ rfl)
  have z2:w4.cell? ⟨bk,i*5+2,none⟩=_:=(cell_eq (HN4.out.2.block bk HKC.out.1) _).trans (HKC.out.2.2.1 2 _ rfl)
  have z3:w4.cell? ⟨bk,i*5+3,none⟩=_:=(cell_eq (HN4.out.2.block bk HKC.out.1) _).trans (HKC.out.2.2.1 3 _ rfl)
  have z4:w4.cell? ⟨bk,i*5+4,none⟩=_:=(cell_eq (HN4.out.2.block bk HKC.out.1) _).trans (HKC.out.2.2.1 4 _ rfl)
  have f0:w4.frozen? ⟨bk,i*5,none⟩=false:=(frz_eq (HN4.out.2.block bk HKC.out.1) _).trans (HKC.out.2.2.2 _)
  have f1:w4.frozen? ⟨bk,i*5+1,none⟩=false:=(frz_eq (HN4.out.2.block bk HKC.out.1) _).trans (HKC.out.2.2.2 _)
  have f2:w4.frozen? ⟨bk,i*5+2,none⟩=false:=(frz_eq (HN4.out.2.block bk HKC.out.1) _).trans (HKC.out.2.2.2 _)
  have f3:w4.frozen? ⟨bk,i*5+3,none⟩=false:=(frz_eq (HN4.out.2.block bk HKC.out.1) _).trans (HKC.out.2.2.2 _)
  have f4:w4.frozen? ⟨bk,i*5+4,none⟩=false:=(frz_eq (HN4.out.2.block bk HKC.out.1) _).trans (HKC.out.2.2.2 _)
  go_wp2_with fail
  refine hK.out _ _ ?_ (fun hHeld2=> ?_)
  ·exact Lib.hid ⟨(cell_eq (HN4.out.2.block gp HG.out.1.lt) 0).trans y0,(cell_eq (HN4.out.2.block gp HG.out.1.lt) 1).trans y1,(cell_eq (HN4.out.2.block gp HG.out.1.lt) 2).trans y2,(cell_eq (HN4.out.2.block br (World.block_lt_of_cell? w3 _ x1)) i).trans x1⟩
  clear hK
  try simp only[ap]
  refine tkK 18 ?_ (y:=Z7)
  try simp only[ap]
  refine wpAnyK_ready (rs:= [19]) Z27 Z93 ?_
  refine AllReadyK.cons (o:= ?oi20) ?hi20 (fun K hK=> ?hs20) AllReadyK.nil
  case hi20=>exact Z20
  go_simp
  obtain⟨w5,hw5⟩: ∃w5,w5=(((((w4.setCell ⟨bk,i*5,none⟩ (.int .i64 ((g.r i).vw:Int))).setCell ⟨bk,i*5+1,none⟩ (.int .i64 ((g.r i).nr:Int))).setCell ⟨bk,i*5+2,none⟩ (.int .i64 ((g.r i).bs:Int))).setCell ⟨bk,i*5+3,none⟩ (.int .i64 ((g.r i).td:Int))).setCell ⟨bk,i*5+4,none⟩ (.slice a4 (g.r i).log.length c4)):=⟨_,rfl⟩
  rw[←hw5]
  have hps5:Ps bk w4 w5:=by rw[hw5];exact(((((Ps.refl bk w4).set (i*5) _).set (i*5+1) _).set (i*5+2) _).set (i*5+3) _).set (i*5+4) _
  have hrw:=HN4.out.1.row c 1 1
  have hlx:Lx w3 c (c.new w3.drew.heap.size (.slice a4 (g.r i).log.length c4) 1 1):=hrw.1
  have hK4:=HG.out.2.1.k.keep (ktE_ok 1) hlx fun j hj _=>HN4.out.2.block j hj
  have hK5:Row (ktE 1) (c.new w3.drew.heap.size (.slice a4 (g.r i).log.length c4) 1 1) 202 w5 (.slice (some ⟨bk,0,none⟩) g.n ck) ((List.range g.n).map (upd g.kept i (keptOf (g.r i)))):=by
   have hlog:(g.r i).log.length≤1048576:=by have:=(HH.out.2.2.2.2.1.logs HI.out.1).1;omega
   have h9:=Row.set5 (E:=ktE 1) (ktE_ok 1) rfl (g:=bk) (cap:=ck) (i:=i) (a:=keptOf (g.r i)) (u:= .slice a4 (g.r i).log.length c4) (c0:= .int .i64 ((g.r i).vw:Int)) (c1:= .int .i64 ((g.r i).nr:Int)) (c2:= .int .i64 ((g.r i).bs:Int)) (c3:= .int .i64 ((g.r i).td:Int)) (c4:= .slice a4 (g.r i).log.length c4) (l:=(List.range g.n).map g.kept) (lo:=202) (W:=w4) (by rw[range_len];exact hK4) (by rw[range_len];exact HI.out.1) rfl (fun e=>by have:202=1:=e;omega) ((hlx bk HKC.out.1).trans HKC.out.2.1) ⟨hrw.2.sl,hlog⟩
   rw[range_len,←map_upd,←hw5] at h9
   exact h9
  have hne: ∀b l,b<w3.heap.size→c b=l→l≠202→b≠bk:=fun b l _ h1 h2 e=>by rw[e,HKC.out.2.1] at h1;exact h2 h1.symm
  have hfr5:Fr (fun l=>l=202) c w3 w5:=⟨hps5.os.trans HN4.out.2.os,hps5.tape.trans HN4.out.2.tape,hps5.output.trans HN4.out.2.output,by rw[hps5.size];exact HN4.out.2.size,fun j hj hn=>(hps5.heap j fun e=>hn (by rw[e];exact HKC.out.2.1)).trans (HN4.out.2.block j hj)⟩
  have hB5:Blk w5 gp 69 _:=(hfr5.block gp HG.out.1.lt (by rw[HG.out.2.2.1];decide)).trans HG.out.1
  have hKF:=HG.out.2.1.keepF (fun l=>l=202) hlx hfr5.block
  have hG5:GP (c.new w3.drew.heap.size (.slice a4 (g.r i).log.length c4) 1 1) w5 ps {g with kept:=upd g.kept i (keptOf (g.r i))} _ _ _ _ _ _ ss:=⟨hKF.r Z37,hK5,hKF.s Z37,hKF.w Z37 Z37,hKF.t Z37,hKF.o Z37 Z37,fun k hk=>hKF.sv k hk (by have:=HI.out.2.2.2;have:k<g.n:=hk;omega) Z37,fun k hk=>hKF.rp k hk fun l hl=>by have:=HI.out.2.2.2;have:k<g.n:=hk;omega⟩
  have HX5:=Lib.hid (And.intro hlx (And.intro hfr5 (And.intro hB5 hG5)))
  clear hps5 hrw hlx hK4 hK5 hne hKF hw5 z0 z1 z2 z3 z4 f0 f1 f2 f3 f4
  refine hK.out _ _ ?_ (fun hHeld3=> ?_)
  ·exact Lib.hid ⟨HX5.out.2.2.1.cell 0 rfl,HX5.out.2.2.1.cell 1 rfl,HX5.out.2.2.1.cell 2 rfl,(cell_eq (HX5.out.2.1.block br (World.block_lt_of_cell? w3 _ x1) (by rw[HG.out.2.2.2.1];decide)) i).trans x1⟩
  clear hK
  try simp only[ap]
  refine tkK 20 ?_ (y:=Z7)
  try simp only[ap]
  refine wpAnyK_lasts [] Z27 Z31 Z31 ?_
  simp only[List.filterMap_cons,List.filterMap_nil,List.getElem?_toArray,List.getElem?_cons_succ,List.getElem?_cons_zero]
  have hbs:bs<w3.heap.size:=World.block_lt_of_cell? w3 _ HS2.out.1
  have hbs5:=HX5.out.2.1.block bs hbs (by rw[HG.out.2.2.2.2.2.1];decide)
  have z6:=(cell_eq hbs5 i).trans HS2.out.1
  have zf:=(frz_eq hbs5 i).trans HS2.out.2
  have h9:=GV.sv1 (g:= {g with kept:=upd g.kept i (keptOf (g.r i))}) ⟨(HX5.out.1 gp HG.out.1.lt).trans HG.out.2.2.1,(HX5.out.1 bs hbs).trans HG.out.2.2.2.2.2.1⟩ (Nat.lt_of_lt_of_le hbs HX5.out.2.1.size) HX5.out.2.2.1 HX5.out.2.2.2 HI.out.1 HI.out.2.2.2 (Lx.refl _ _) (Fr.refl _ _ _) (Row.nil (svE 2) _ (210+i) w5)
  have HLS:Hid (∃g',Mg c w3 (w5.setCell ⟨bs,i,none⟩ (.slice none 0 0)) gp g'∧DI N (e+1) h g'∧Gon g.n h h g g'):=Lib.hid ⟨evKeep g i,⟨_,HX5.out.1,(HX5.out.2.1.mono fun l hl=>Z65).trans HX5.out.1 (h9.2.1.mono fun l hl=>by have:=HI.out.1;have:=HI.out.2.2.2;unfold Fg;omega),h9.1,ps,_,_,_,_,_,_,_,h9.2.2.1,h9.2.2.2⟩,(HH.out.2.2.2.2.1.keep HI.out.1).up HH.out.2.2.2.2.2.1,Gon.refl _ _ _ _ rfl rfl⟩
  clear h9 hbs hbs5 hHeld1 hHeld2 hHeld3
  refine wpList_step fun K hK=> ?_
  rw[if_pos Z31]
  go_simp
  refine hK _ _ ?_
  clear hK
  try simp only[ap]
  clear z6 zf
  generalize w5.setCell ⟨bs,i,none⟩ (.slice none 0 0)=w6 at*
  exact Z3
open Go.RowKit Go.Maps
theorem do_any {N e li:Nat}{h:Gh Op}{c:Lb}{gp:Nat}{g:Gp Op}(ek ew ep:Int)(o:Op)(oa:Option Addr)(oc:Nat)(m:Mz)(ma:Option Addr)(mc:Nat)(w:World)(hgv:GV c w gp g)(D:DI N e h g)(he:e<160)(hu:TxA li c w (.slice oa o.c.sco.length oc) o)(hli: ¬Fg li):
 Calls Tryz.prog 26 #[.pointer (some ⟨gp,0,none⟩),.agg #[.int .i64 ek,.int .i64 ew,.int .i64 ep,.int .i64 o.ed,.int .i64 o.sq,.int .i64 o.lo,.int .i64 o.c.kd,.string ⟨o.c.fam.toArray⟩,.int .i64 o.c.ser,.int .i64 o.c.tok,.string ⟨o.c.cli.toArray⟩,.string ⟨o.c.usr.toArray⟩,.slice oa o.c.sco.length oc,.string ⟨o.c.red.toArray⟩,.string ⟨o.c.cha.toArray⟩,.string ⟨o.c.met.toArray⟩,.string ⟨o.c.ver.toArray⟩,.bool o.c.rf,.int .i64 o.c.edg,.int .i64 m.kd,.int .i64 m.fr,.int .i64 m.vw,.int .i64 m.nr,.int .i64 m.ao,.slice ma m.ops.length mc,.int .i64 m.cm,.int .i64 m.sb,.int .i64 m.ls]] w fun e' w'=>e'= .returned (.bool true)∧ ∃g',Mg c w w' gp g'∧DG e h g g':=by
 by_cases h0:ek=0
 ·exact do_ask ek ew ep o oa oc m ma mc w hgv D he hu hli h0
 by_cases h1:ek=1
 ·exact do_tick ek ew ep o oa oc m ma mc w hgv D he hu hli h1
 by_cases h2:ek=2
 ·exact do_take ek ew ep o oa oc m ma mc w hgv D he hu hli h2
 by_cases h3:ek=3
 ·exact do_drop ek ew ep o oa oc m ma mc w hgv D he hu hli h3
 by_cases h4:ek=4
 ·exact do_dbl ek ew ep o oa oc m ma mc w hgv D he hu hli h4
 by_cases h5:ek=5
 ·exact do_load ek ew ep o oa oc m ma mc w hgv D he hu hli h5
 by_cases h6:ek=6
 ·exact do_keep ek ew ep o oa oc m ma mc w hgv D he hu hli h6
 exact do_none ek ew ep o oa oc m ma mc w hgv D he hu hli Z11
open Go.RowKit Go.Maps
structure LW (w W:World)(gp:Nat)(l:List Ev)(v:Value)(e:Nat)(c:Lb)(N:Nat)(h:Gh Op)(g:Gp Op):Prop where
 lx:Lx w (fun _=>300) c
 b:Below w.heap.size w W
 gv:GV c W gp g
 d:DI N e h g
 s:SlR evE c 300 W v l
theorem LW.below {w W W':World}{gp e N:Nat}{l:List Ev}{v:Value}{c:Lb}{h:Gh Op}{g:Gp Op}(L:LW w W gp l v e c N h g)(hb:Below W.heap.size W W'):LW w W' gp l v e c N h g:=
 ⟨L.lx,L.b.trans (hb.mono L.b.size),L.gv.below (by have:=L.d.n;omega) hb,L.d,L.s.below evE_ok hb⟩
theorem LW.up {w W:World}{gp e N:Nat}{l:List Ev}{v:Value}{c:Lb}{h:Gh Op}{g:Gp Op}(L:LW w W gp l v e c N h g)(he:e<160):LW w W gp l v (e+1) c N h g:=
 ⟨L.lx,L.b,L.gv,L.d.up he,L.s⟩
theorem LW.next {w W W':World}{gp e e' N N':Nat}{l:List Ev}{v:Value}{c:Lb}{h h':Gh Op}{g g':Gp Op}(L:LW w W gp l v e c N h g)(hm:Mg c W W' gp g')(D:DI N' e' h' g'): ∃c',LW w W' gp l v e' c' N' h' g'∧Lx W c c'∧Fr Fg c W W':=by
 obtain⟨c',hx,hf,hv⟩:=hm
 refine⟨c',⟨L.lx.trans hx L.b.size,L.b.trans (hf.below L.b.size fun j hj e=>by rw[L.lx j hj] at e;have e2:Fg 300:=e;unfold Fg at e2;omega),hv,D,L.s.fr evE_ok hx hf fun k hk e=> ?_⟩,hx,hf⟩
 rcases hk with hk|hk
 ·have h1:k=300:=hk
  unfold Fg at e;omega
 ·unfold Fg at e;omega
theorem DI.zero (n:Nat)(hn:1≤n∧n≤5): ∃h,DI 0 0 h (gp0 n):=by
 obtain⟨h,G⟩:=GI.zero mayO n hn.1
 exact⟨h,G,EvI.zero n,(SvB.zero n).up (Nat.zero_le _) (Nat.zero_le _),hn,Nat.le_refl _,Z11,fun k hk=>Nat.le_refl _⟩
theorem ev_cells {l:List Ev}{c:Lb}{lo:Nat}{W:World}{v:Value}(h:SlR evE c lo W v l){k:Nat}{x:Ev}(hk:l[k]?=some x):
 ∃b off cap,v= .slice (some ⟨b,off,none⟩) l.length cap∧EvA c W x∧b<W.heap.size∧ ∀(j:Nat) u,(evC x)[j]?=some u→W.cell? ⟨b,off+k*28+j,none⟩=some u:=by
 obtain⟨b,off,cap,u,hv,hin,hc⟩:=h.get evE_ok hk
 exact⟨b,off,cap,hv,hin,World.block_lt_of_cell? W _ (hc 0 _ rfl),hc⟩
theorem range_below {W W':World}{b o:Nat}{cs:List Value}(h:W.rangeAt b o cs)(hb:Below W.heap.size W W')(hlt:b<W.heap.size):W'.rangeAt b o cs:=fun j v hj=>by
 have h1:=h j v hj
 have h2:=hb.block b hlt
 simp only[World.cell?,h2] at h1⊢
 exact h1
theorem wpList_loadW {P:Program}{ops:Array Oper}{rest:List Oper}{op:Oper}{a:Act}{w:World}{Q:Exit→Act→World→Prop}(hw:Region.wanted op (yielded ops a.tmps)=true)(ty:TypeId)(x:Operand)(ho:op.op= .load ty x)
 (b o:Nat) (hx:a.eval x= .pointer (some ⟨b,o,none⟩)) (cs:List Value) (d:TypeDesc) (hc:w.rangeAt b o cs)
 (hu:P.underlying ty=some d) (hd:d.isRow=true) (hi:(P.info? ty).map (·.size)=some cs.length)
 (h:wpList P ops Q rest (a.put op.dst (.agg cs.toArray)) w):wpList P ops Q (op::rest) a w:=
 wpList_step fun K hK=>by
  rw[if_pos hw]
  exact wp_load_mid ty x ho b o hx cs d hc hu hd hi (hK _ _ h)
theorem ev_size (x:Ev):(Tryz.prog.info? 62).map (·.size)=some (evC x).length:=by kernel_rfl
theorem viewAgrees_walk (n:Int)(v:Value)(l:List Ev)(w:World)(hs:SlR evE (fun _=>300) 300 w v l)(hl:l.length≤4611686018427387904):
 Calls Tryz.prog 4 #[.int .i64 n,v] w fun e w'=>e= .returned (.bool true)∧Below w.heap.size w w':=by
 obtain⟨va,vc,ev⟩:=hs.slice
 subst ev
 have HS:=Lib.hid (And.intro hs hl)
 have HZ:=Lib.hid (size_any n w)
 clear hs hl
 go_enter Tryz.func4,Tryz.ntmps4
 go_wp2_with fail
 refine HZ.out.mono ?_
 rintro e w1 ⟨m,hm1,hm5,rfl,rfl⟩
 have HM:=Lib.hid (And.intro hm1 hm5)
 have HMD:=Lib.hid (made_any m (fun _=>300) w1 ⟨hm1,hm5⟩ (fun _ _=>Z37))
 clear HZ hm1 hm5
 go_wp2_with fail
 refine HMD.out.mono ?_
 rintro e w2 ⟨gp,rfl,hgp,hb2,c2,hx2,hv2⟩
 obtain⟨h0,hd0⟩:=DI.zero m HM.out
 have HL2:=Lib.hid (show LW w1 w2 gp l (.slice va l.length vc) 0 c2 0 h0 (gp0 m) from⟨hx2,hb2,hv2,hd0,(HS.out.1.keep evE_ok hx2 fun j hj _=>hb2.block j hj)⟩)
 have HKN:=Lib.hid (known_any w2)
 clear HMD hgp hb2 hx2 hv2 hd0
 go_wp2_with fail
 refine HKN.out.mono ?_
 rintro e w3 ⟨rfl,hb3⟩
 have HL3:=Lib.hid (HL2.out.below hb3)
 clear HL2 HKN hb3
 go_wp2_with fail
 go_loopw [6] (fun iv wr=> ∃k:Nat,k≤l.length∧k≤150∧iv= .int .i64 (k:Int)∧ ∃c N h g,LW w1 wr gp l (.slice va l.length vc) k c N h g) (fun iv _=>l.length-(intOf iv).toNat)
 case atStart=>exact⟨0,Nat.zero_le _,Nat.zero_le _,rfl,_,_,_,_,HL3.out⟩
 case round=>
  obtain⟨k,hk,hk150,rfl,c,N,h,g,hlw⟩:=hrel
  have HL:=Lib.hid hlw
  clear hlw HL3
  by_cases hkl:k<l.length
  case neg=>
   have t1: ¬(k:Int)<(l.length:Int):=by omega
   clear hk hk150 hkl
   go_wp2_with fail
   go_ret
   exact⟨rfl,HL.out.b⟩
  case pos=>
  have t1:(k:Int)<(l.length:Int):=by omega
  by_cases hk2:k<150
  case neg=>
   have t2: ¬(k:Int)<150:=by omega
   clear hk hk150 hkl hk2
   go_wp2_with fail
   go_ret
   exact⟨rfl,HL.out.b⟩
  case pos=>
  have t2:(k:Int)<150:=by omega
  obtain⟨x,hx⟩: ∃x,l[k]?=some x:=⟨_,List.getElem?_eq_getElem hkl⟩
  obtain⟨b,off,cap,ev,hea,hb,hcl⟩:=ev_cells HL.out.s hx
  cases ev
  have HX:=Lib.hid (And.intro hb hcl)
  have HEA:=Lib.hid hea
  have HKL:=Lib.hid (And.intro hkl hk2)
  have HGT:Hid (Calls Tryz.prog 25 #[.agg (evC x).toArray] wr fun e w'=>e= .returned (.bool (greatE x.o x.m.ops))∧Below wr.heap.size wr w'):=Lib.hid (great_any (li:=300) (lo:=300) x.ek x.ew x.ep x.o x.oa x.oc x.m (.slice x.ma x.m.ops.length x.mc) wr hea.m (Nat.le_trans hea.o.sz Z37) hea.l)
  have HSZ:=Lib.hid (ev_size x)
  clear hx hea hb hcl hk hk150 hkl hk2
  go_wp2_with (refine wpList_load_mid rfl 62 (.tmp 28) rfl b (off+k*28) rfl (evC x) _ HX.out.2 Tryz.underlying62 rfl HSZ.out ?_)
  refine HGT.out.mono ?_
  rintro e w4 ⟨rfl,hb4⟩
  have HB4:=Lib.hid hb4
  have HL4:=Lib.hid (HL.out.below hb4)
  clear hb4 HGT
  cases hg:greatE x.o x.m.ops
  case true=>
   go_wp2_with fail
   go_ret
   exact⟨rfl,HL4.out.b⟩
  case false=>
  have HG:=Lib.hid hg
  clear hg
  have z0:w4.cell? ⟨b,off+k*28,none⟩=some (.int .i64 x.ek):=(range_below HX.out.2 HB4.out HX.out.1) 0 _ rfl
  have HX4:=Lib.hid (range_below HX.out.2 HB4.out HX.out.1)
  have hwr:wrap64 ((k:Int)+1)=((k+1:Nat):Int):=by have:=HKL.out;rw[IntWalk.wrap64_in _ Z11];omega
  have HWR:=Lib.hid hwr
  clear hwr
  by_cases h7:x.ek=7
  case pos=>
   have k7:(x.ek !=7)=false:=by simp[h7]
   go_wp2_with fail
   have h4:=HKL.out
   exact⟨⟨k+1,h4.1,h4.2,rfl,_,_,_,_,HL4.out.up Z11⟩,by simp[intOf];omega⟩
  case neg=>
   have k7:(x.ek !=7)=true:=by simp[h7]
   have HD:Hid (Calls Tryz.prog 26 #[.pointer (some ⟨gp,0,none⟩),.agg (evC x).toArray] w4 fun e' w'=>e'= .returned (.bool true)∧ ∃g',Mg c w4 w' gp g'∧DG k h g g'):=Lib.hid (do_any x.ek x.ew x.ep x.o x.oa x.oc x.m x.ma x.mc w4 HL4.out.gv HL4.out.d (by have:=HKL.out;omega) ((evE_ok.keep _ _ _ _ undef x HEA.out (Lx.refl wr c) fun j hj _=>HB4.out.block j hj:EvA c w4 x).tx HG.out) Z65)
   clear h7
   go_wp2_with (refine wpList_loadW rfl 62 (.tmp 41) rfl b (off+k*28) rfl (evC x) _ HX4.out Tryz.underlying62 rfl HSZ.out ?_)
   refine HD.out.mono ?_
   rintro e w5 ⟨rfl,g5,hm5,h5,N5,hd5,hg5⟩
   have HL5:=Lib.hid (HL4.out.next hm5 hd5)
   clear HD hm5 hd5 hg5 z0
   go_wp2_with fail
   have h4:=HKL.out
   obtain⟨c5,h6,_,_⟩:=HL5.out
   exact⟨⟨k+1,h4.1,h4.2,rfl,_,_,_,_,h6⟩,by simp[intOf];omega⟩
end Go.Proofs.YtdmjegelcdghlaaGreat.Vw
