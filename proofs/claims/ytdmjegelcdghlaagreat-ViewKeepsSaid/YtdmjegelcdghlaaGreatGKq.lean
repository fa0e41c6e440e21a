/-
  Chapter 22: what a replica says goes where it belongs.
-/
import Derived.Test.YtdmjegelcdghlaaGreatGGen
import Derived.Test.YtdmjegelcdghlaaGreatGKp
import Derived.Test.YtdmjegelcdghlaaGreatGKk
import Derived.Test.YtdmjegelcdghlaaGreatGKe
set_option maxRecDepth 100000
set_option maxHeartbeats 64000000
set_option linter.unusedVariables false
set_option linter.unusedSimpArgs false
namespace Go.Proofs.YtdmjegelcdghlaaGreat
theorem Z227 {p:Prop}(h:p:=by
 go_wp2_with fail
 go_roundw
 case rel=>exact⟨k+1,hk1,Z81,HN.out⟩
 case measure=>simp[intOf];omega):p:=h
theorem Z185 {p:Prop}(h:p:=by refine Or.inl ⟨Z31,?_⟩;intro W hSw;(try dsimp only at hSw);have q0:=(HXE.out W hSw).1;have q4:=(HXE.out W hSw).2.1;have q1:=(HXE.out W hSw).2.2.1;have q3:=(HXE.out W hSw).2.2.2;clear hSw;go_simp;(try with_reducible rfl)):p:=h
theorem Z65 {p:Prop}(h:p:=by unfold Fg;omega):p:=h
theorem Z24 {p:Prop}(h:p:=by refine Or.inl ⟨by rfl,?_⟩;intro W hSw;(try dsimp only at hSw);have q4:=(HXC.out W hSw).1;have q5:=(HXC.out W hSw).2.1;have q6:=(HXC.out W hSw).2.2;clear hSw;go_simp;(try with_reducible rfl)):p:=h
theorem Z7 {p:Prop}(h:p:=by refine Or.inl ⟨by rfl,?_⟩;intro W hSw;(try dsimp only at hSw);(clear hSw);go_simp;(try with_reducible rfl)):p:=h
end Go.Proofs.YtdmjegelcdghlaaGreat
namespace Go.Proofs.YtdmjegelcdghlaaGreat.Vw
open Go.RowKit Go.Maps
def gA1 (g:Gp Op)(i:Nat):Gp Op:= {g with r:=upd g.r i {g.r i with saves:= [] },saves:=upd g.saves i (g.saves i++(g.r i).saves)}
def gA2 (g:Gp Op)(i:Nat):Gp Op:= {g with r:=upd g.r i (told {g.r i with saves:= [] }),saves:=upd g.saves i (g.saves i++(g.r i).saves)}
def gA3 (g:Gp Op)(i k:Nat):Gp Op:= {gA2 g i with told:=upd g.told i (g.told i+k),order:=g.order++((ready (g.r i)).take k).drop (g.order.length-g.told i)}
theorem gA1_r (g:Gp Op)(i:Nat):(gA1 g i).r i= {g.r i with saves:= [] }:=upd_same _ _ _
theorem gA2_r (g:Gp Op)(i:Nat):(gA2 g i).r i=told {g.r i with saves:= [] }:=upd_same _ _ _
theorem gA2_is (g:Gp Op)(i:Nat):{gA1 g i with r:=upd (gA1 g i).r i (told {g.r i with saves:= [] })} =gA2 g i:=by
 unfold gA1 gA2
 dsimp only
 rw[upd_upd]
theorem gA3_0 (g:Gp Op)(i:Nat):gA3 g i 0=gA2 g i:=by
 unfold gA3
 rw[List.take_zero,List.drop_nil,List.append_nil,Nat.add_zero,upd_eta]
 rfl
theorem gA_end {g:Gp Op}{i m:Nat}(hm:m=(ready (g.r i)).length)(hc:g.told i+m=(g.r i).cm):{gA3 g i m with r:=upd (gA3 g i m).r i {told {g.r i with saves:= [] } with out:= [] },way:=g.way++(g.r i).out} =settle g i:=by
 unfold gA3 gA2 settle
 dsimp only
 rw[upd_upd,hc,hm,List.take_length]
 rfl
theorem gA3_step {g:Gp Op}{i k t3:Nat}{l:List Op}(ht:t3=g.told i+k+1)(ho:(gA3 g i (k+1)).order=l):{gA3 g i k with told:=upd (gA3 g i k).told i t3,order:=l} =gA3 g i (k+1):=by
 rw[←ho]
 unfold gA3
 dsimp only
 rw[upd_upd,ht,Nat.add_assoc]
structure SB (g:Gp Op)(j:Nat):Prop where
 n:1≤g.n∧g.n≤5
 ji:j<g.n
 li:LI (g.r j)
 td:g.told j=(g.r j).td
 so:g.told j≤g.order.length
 sm: ∀k,k<(ready (g.r j)).length→g.told j+k<g.order.length→g.order[g.told j+k]?=(ready (g.r j))[k]?
 bd:(g.saves j).length≤100000000∧g.way.length≤100000000∧g.order.length≤1000000
theorem field_std6 (a0 a1 a2 a3 a4 a5 a6 a7 a8 a9:Value)(W:World):(Instr.field 39 (.agg #[a0,a1,a2,a3,a4,a5,a6,a7,a8,a9]) 6).run Tryz.prog W= .ok a6 W:=by kernel_rfl
theorem LI.sv0 {r:Rp Op}(h:LI r):LI {r with saves:= [] }:=⟨h.n,h.id,h.vw,h.nr,h.bs,h.ls,h.lo,h.hv,Nat.zero_le _,h.ou⟩
theorem cell_eq {w w':World}{b:Nat}(h:w'.heap[b]?=w.heap[b]?)(o:Nat):w'.cell? ⟨b,o,none⟩=w.cell? ⟨b,o,none⟩:=by simp only[World.cell?,h]
theorem frz_eq {w w':World}{b:Nat}(h:w'.heap[b]?=w.heap[b]?)(o:Nat):w'.frozen? ⟨b,o,none⟩=w.frozen? ⟨b,o,none⟩:=by simp only[World.frozen?,h]
structure SS (c:Lb)(w:World)(gp:Nat)(g:Gp Op)(i:Nat)(ps:Nat→Nat)(br cr bk ck bs cs:Nat)(wv:Value)(bt ct:Nat)(ss:Nat→Sl3)(rv:Value)(k:Nat)(c':Lb)(wr:World)(oa:Option Addr)(oc:Nat):Prop where
 lx:Lx w c c'
 fr:Fr Fg c w wr
 cg:c' gp=200∧c' bt=205
 fbk:Blk wr gp 69 [.slice (some ⟨br,0,none⟩) g.n cr,.slice (some ⟨bk,0,none⟩) g.n ck,.slice (some ⟨bs,0,none⟩) g.n cs,wv,.slice (some ⟨bt,0,none⟩) g.n ct,.slice oa (gA3 g i k).order.length oc]
 fgp:GP c' wr ps (gA3 g i k) (.slice (some ⟨br,0,none⟩) g.n cr) (.slice (some ⟨bk,0,none⟩) g.n ck) (.slice (some ⟨bs,0,none⟩) g.n cs) wv (.slice (some ⟨bt,0,none⟩) g.n ct) (.slice oa (gA3 g i k).order.length oc) ss
 sl:SlR (opE 1) c' 1 wr rv (ready (g.r i))
theorem gA3_order {g:Gp Op}{i k:Nat}(S:SB g i)(hk:k≤(ready (g.r i)).length):(gA3 g i k).order.length=max g.order.length (g.told i+k)∧(g.told i+k≤g.order.length→(gA3 g i k).order=g.order):=by
 have h:=S.so
 constructor
 ·show(g.order++((ready (g.r i)).take k).drop (g.order.length-g.told i)).length=_
  rw[List.length_append,List.length_drop,List.length_take]
  omega
 ·intro hle
  show g.order++((ready (g.r i)).take k).drop (g.order.length-g.told i)=_
  rw[List.drop_eq_nil_of_le (by rw[List.length_take];omega),List.append_nil]
theorem gA3_succ {g:Gp Op}{i k:Nat}(S:SB g i){o:Op}(ho:(ready (g.r i))[k]?=some o)(hlt:g.order.length<g.told i+k+1):(gA3 g i (k+1)).order=(gA3 g i k).order++ [o]:=by
 have hk:=(List.getElem?_eq_some_iff.1 ho).1
 show g.order++((ready (g.r i)).take (k+1)).drop (g.order.length-g.told i)=(g.order++((ready (g.r i)).take k).drop (g.order.length-g.told i))++ [o]
 rw[List.append_assoc,List.take_succ_eq_append_getElem hk,List.drop_append_of_le_length (by rw[List.length_take];omega),(List.getElem?_eq_some_iff.1 ho).2]
theorem settle_any {c:Lb}{gp i:Nat}{g:Gp Op}(w:World)(h:GV c w gp g)(S:SB g i):
 Calls Tryz.prog 28 #[.pointer (some ⟨gp,0,none⟩),.int .i64 (i:Int)] w fun e w'=>e= .returned (.bool true)∧Mg c w w' gp (settle g i):=by
 obtain⟨ps,br,cr,bk,ck,bs,cs,wv,bt,ct,ov,ss,hB,hG,hL,lbr,lbk,lbs,lbt⟩:=h.opn S.n.1
 have hn7:g.n≤7:=by have:=S.n.2;omega
 obtain⟨x1,x2,x3,f1,f2,f3⟩:=hG.cells S.ji
 obtain⟨sa,sn,sq,hsi⟩: ∃a n q,ss i=(⟨a,n,q⟩:Sl3):=⟨(ss i).a,(ss i).n,(ss i).q,rfl⟩
 have hs2:(ss i).v= .slice sa sn sq:=by rw[hsi];rfl
 rw[hs2] at x2
 have hpi:=(hG.rp i S.ji).lt
 have hlpi:c (ps i)=10+10*i:=(hG.rp i S.ji).lb
 have HH:=Lib.hid (And.intro hB (And.intro hG (And.intro hL (And.intro S (And.intro hn7 hs2)))))
 have t1:(i:Int)<(g.n:Int):=by have:=S.ji;omega
 have HPI:=Lib.hid (And.intro hpi (And.intro hlpi (And.intro (And.intro lbr lbk) (And.intro lbs lbt))))
 have y0:=hB.cell 0 rfl
 have y2:=hB.cell 2 rfl
 have HY:=Lib.hid (And.intro y0 (And.intro y2 (And.intro x1 (And.intro x2 f2))))
 have HSV:=Lib.hid (saves_any (ps i) w.drew ((hG.rp i S.ji).keep (Lx.refl w c) fun _ _ _=>rfl:RV i c w.drew (ps i) (g.r i)))
 clear hB hG hL S hn7 hs2 hpi hlpi lbr lbk lbs lbt y0 y2 x1 x2 x3 f1 f2 f3 hsi h
 go_enter Tryz.func28,Tryz.ntmps28
 go_upto_region 1 with fail
 refine wp_region_K (fun W=>W.cell? ⟨gp,0,none⟩=some (.slice (some ⟨br,0,none⟩) g.n cr)∧W.cell? ⟨gp,2,none⟩=some (.slice (some ⟨bs,0,none⟩) g.n cs)∧W.cell? ⟨br,i,none⟩=some (.pointer (some ⟨ps i,0,none⟩))∧W.cell? ⟨bs,i,none⟩=some (.slice sa sn sq)) 22 Z27 ?_ (fun hHeld1=> ?_)
 ·exact⟨HY.out.1,HY.out.2.1,HY.out.2.2.1,HY.out.2.2.2.1⟩
 refine tkP 0 ?_ (y:=Z189)
 try simp only[ap]
 refine tkK 1 ?_ (y:=Z1)
 try simp only[ap]
 refine tkK 2 ?_ (y:=Z1)
 try simp only[ap]
 refine tkK 3 ?_ (y:=Z1)
 try simp only[ap]
 refine tkK 4 ?_ (y:=Z1)
 try simp only[ap]
 refine tkK 5 ?_ (y:=Z1)
 try simp only[ap]
 refine tkK 6 ?_ (y:=Z1)
 try simp only[ap]
 refine tkK 7 ?_ (y:=Z1)
 try simp only[ap]
 refine tkK 8 ?_ (y:=Z1)
 try simp only[ap]
 refine tkK 9 ?_ (y:=Z1)
 try simp only[ap]
 refine tkK 10 ?_ (y:=Z1)
 try simp only[ap]
 refine tkK 11 ?_ (y:=Z1)
 try simp only[ap]
 refine tkK 12 ?_ (y:=Z1)
 try simp only[ap]
 refine tkK 13 ?_ (y:=Z1)
 try simp only[ap]
 refine tkK 14 ?_ (y:=Z1)
 try simp only[ap]
 refine tkK 15 ?_ (y:=Z1)
 try simp only[ap]
 refine tkK 16 ?_ (y:=Z1)
 try simp only[ap]
 refine tkK 17 ?_ (y:=Z1)
 try simp only[ap]
 refine tkK 18 ?_ (y:=Z1)
 try simp only[ap]
 refine wpAnyK_ready (rs:= [19]) Z27 Z93 ?_
 refine AllReadyK.cons (o:= ?oi20) ?hi20 (fun K hK=> ?hs20) AllReadyK.nil
 case hi20=>exact Z20
 go_simp
 refine HSV.out.mono ?_
 rintro e w1 ⟨v1,rfl,hrow,hps,hrv1⟩
 obtain⟨va,vc,ev⟩:=hrow.slice
 subst ev
 have HP1:Hid (Ps (ps i) w w1):=Lib.hid ⟨hps.os,hps.tape,hps.output,hps.size,hps.heap⟩
 have HR1:=Lib.hid (And.intro hrow (GV.rp HH.out.2.2.1.1 HH.out.1 HH.out.2.1 HH.out.2.2.2.1.ji HH.out.2.2.2.2.1 (Lx.refl _ _) (HP1.out.fr (F:=Fi i) (by rw[HPI.out.2.1];exact Fi_0 i)) hrv1))
 have HC1:Hid (w1.cell? ⟨gp,0,none⟩=w.cell? ⟨gp,0,none⟩∧w1.cell? ⟨gp,2,none⟩=w.cell? ⟨gp,2,none⟩∧w1.cell? ⟨br,i,none⟩=w.cell? ⟨br,i,none⟩∧w1.cell? ⟨bs,i,none⟩=w.cell? ⟨bs,i,none⟩∧w1.frozen? ⟨bs,i,none⟩=w.frozen? ⟨bs,i,none⟩):=Lib.hid (by
  have h2: ∀b l,c b=l→l≥200→b≠ps i:=fun b l hb hl e=>by rw[e,HPI.out.2.1] at hb;have:=HH.out.2.2.2.1.ji;have:=HH.out.2.2.2.2.1;omega
  have h3:=HH.out.2.2.1
  exact⟨cell_eq (HP1.out.heap _ (h2 _ _ h3.1 Z37)) _,cell_eq (HP1.out.heap _ (h2 _ _ h3.1 Z37)) _,cell_eq (HP1.out.heap _ (h2 _ _ h3.2.1 Z37)) _,cell_eq (HP1.out.heap _ (h2 _ _ h3.2.2.2.1 Z37)) _,frz_eq (HP1.out.heap _ (h2 _ _ h3.2.2.2.1 Z37)) _⟩)
 clear hrow hps hrv1
 go_wp2_with fail
 refine hK.out _ _ ?_ (fun hHeld2=> ?_)
 ·exact⟨HC1.out.1.trans HY.out.1,HC1.out.2.1.trans HY.out.2.1,HC1.out.2.2.1.trans HY.out.2.2.1,HC1.out.2.2.2.1.trans HY.out.2.2.2.1⟩
 clear hK
 try simp only[ap]
 refine wpAnyK_ready (rs:= [20]) Z27 Z93 ?_
 refine AllReadyK.cons (o:= ?oi21) ?hi21 (fun K hK=> ?hs21) AllReadyK.nil
 case hi21=>exact Z20
 obtain⟨v2,w2,hrun,hx2,hr2,hf2,hbl2⟩:=((HR1.out.2.2.2.sv i HH.out.2.2.2.1.ji).app (t:=42) (ty:=42) (m:=(g.r i).saves) (svE_ok 2) Tryz.underlying42 sv_row rfl HR1.out.1.sl.ex (fun e=>by have:210+i=2:=e;omega) (by have h1:=HH.out.2.2.2.1.bd.1;have h2:=HH.out.2.2.2.1.li.sv;show((g.saves i).length+_)*_≤_;omega) (by have h1:=HH.out.2.2.2.1.bd.1;have h2:=HH.out.2.2.2.1.li.sv;show(g.saves i).length+_≤_;unfold maxLen;omega))
 obtain⟨a2,c2,e2⟩:=hr2.slice
 subst e2
 rw[HH.out.2.2.2.2.2] at hrun
 have HRUN:=Lib.hid hrun
 have HR2:=Lib.hid (And.intro hx2 (And.intro hr2 (And.intro hf2 (GV.sv1 (g:= {g with r:=upd g.r i {g.r i with saves:= [] } }) ⟨HR1.out.2.1,HH.out.2.2.1.2.2.2.1⟩ (by rw[HP1.out.size];exact HPI.out.2.2.2.1) HR1.out.2.2.1 HR1.out.2.2.2 HH.out.2.2.2.1.ji HH.out.2.2.2.2.1 hx2 hf2 hr2))))
 have HC2:Hid (w2.cell? ⟨gp,0,none⟩=w1.cell? ⟨gp,0,none⟩∧w2.cell? ⟨gp,2,none⟩=w1.cell? ⟨gp,2,none⟩∧w2.cell? ⟨br,i,none⟩=w1.cell? ⟨br,i,none⟩∧w2.cell? ⟨bs,i,none⟩=w1.cell? ⟨bs,i,none⟩∧w2.frozen? ⟨bs,i,none⟩=w1.frozen? ⟨bs,i,none⟩):=Lib.hid (by
  have h3:=HH.out.2.2.1
  have h4:=HPI.out.2.2
  have h5:=HH.out.1.lt
  have hs:=HP1.out.size
  have h2: ∀b,b<w.heap.size→c b=200∨c b=201∨c b=203→w2.heap[b]?=w1.heap[b]?:=fun b hb hl=>HR2.out.2.2.1.block b (by rw[hs];exact hb) (fun e=>Z11)
  exact⟨cell_eq (h2 _ h5 (.inl h3.1)) _,cell_eq (h2 _ h5 (.inl h3.1)) _,cell_eq (h2 _ h4.1.1 (.inr (.inl h3.2.1))) _,cell_eq (h2 _ h4.2.1 (.inr (.inr h3.2.2.2.1))) _,frz_eq (h2 _ h4.2.1 (.inr (.inr h3.2.2.2.1))) _⟩)
 clear hrun hx2 hr2 hf2 hbl2
 refine hs_execK Z31 (exec_appK (.tmp 18) (.tmp 26) 42 rfl rfl rfl HRUN.out) ?_
 refine hK.out _ _ ?_ (fun hHeld4=> ?_)
 ·exact⟨HC2.out.1.trans (HC1.out.1.trans HY.out.1),HC2.out.2.1.trans (HC1.out.2.1.trans HY.out.2.1),HC2.out.2.2.1.trans (HC1.out.2.2.1.trans HY.out.2.2.1),HC2.out.2.2.2.1.trans (HC1.out.2.2.2.1.trans HY.out.2.2.2.1)⟩
 clear hK
 try simp only[ap]
 refine tkK 21 ?_ (y:=Z1)
 try simp only[ap]
 refine wpAnyK_lasts [] Z27 Z31 Z31 ?_
 simp only[List.filterMap_cons,List.filterMap_nil,List.getElem?_toArray,List.getElem?_cons_succ,List.getElem?_cons_zero]
 have z2:=HC2.out.2.2.2.1.trans (HC1.out.2.2.2.1.trans HY.out.2.2.2.1)
 have zf:=HC2.out.2.2.2.2.trans (HC1.out.2.2.2.2.trans HY.out.2.2.2.2)
 refine wpList_step fun K hK=> ?_
 rw[if_pos Z31]
 go_simp
 refine hK _ _ ?_
 clear hK
 try simp only[ap]
 have HR3:Hid (Lx w c (c.row (.slice a2 ((g.saves i).length+(g.r i).saves.length) c2) (210+i))∧Fr Fg c w (w2.setCell ⟨bs,i,none⟩ (.slice a2 ((g.saves i).length+(g.r i).saves.length) c2))∧Blk (w2.setCell ⟨bs,i,none⟩ (.slice a2 ((g.saves i).length+(g.r i).saves.length) c2)) gp 69 [.slice (some ⟨br,0,none⟩) g.n cr,.slice (some ⟨bk,0,none⟩) g.n ck,.slice (some ⟨bs,0,none⟩) g.n cs,wv,.slice (some ⟨bt,0,none⟩) g.n ct,ov]∧
  ∃ss3,GP (c.row (.slice a2 ((g.saves i).length+(g.r i).saves.length) c2) (210+i)) (w2.setCell ⟨bs,i,none⟩ (.slice a2 ((g.saves i).length+(g.r i).saves.length) c2)) ps (gA1 g i) (.slice (some ⟨br,0,none⟩) g.n cr) (.slice (some ⟨bk,0,none⟩) g.n ck) (.slice (some ⟨bs,0,none⟩) g.n cs) wv (.slice (some ⟨bt,0,none⟩) g.n ct) ov ss3):=Lib.hid (by
  have h1:=HR2.out
  rw[List.length_append] at h1
  have h2:Lx w c (c.row (.slice a2 ((g.saves i).length+(g.r i).saves.length) c2) (210+i)):=fun k hk=>h1.1 k (by rw[HP1.out.size];exact hk)
  have h3:Fr Fg c w w1:=(HP1.out.fr (F:=Fi i) (by rw[HPI.out.2.1];exact Fi_0 i)).mono (Fg_Fi (by have h4:=HH.out.2.2.2.1.ji;have h5:=HH.out.2.2.2.1.n;omega))
  have hi:i<5:=by have:=HH.out.2.2.2.1.ji;have:=HH.out.2.2.2.1.n;omega
  exact⟨h2,h3.trans (Lx.refl _ _) (h1.2.2.2.2.1.mono fun l hl=>Z65),h1.2.2.2.2.2.1,_,h1.2.2.2.2.2.2⟩)
 generalize w2.setCell ⟨bs,i,none⟩ (.slice a2 ((g.saves i).length+(g.r i).saves.length) c2)=w3 at*
 generalize c.row (.slice a2 ((g.saves i).length+(g.r i).saves.length) c2) (210+i)=c3 at*
 clear HR2 HRUN HC2 HC1 z2 zf hHeld1 hHeld2 hHeld4 HR1 HP1 HSV HY
 obtain⟨ss3,hG3⟩:=HR3.out.2.2.2
 obtain⟨x1,-,-,f1,-,-⟩:=GP.cells (g:=gA1 g i) hG3 (show i<_ from HH.out.2.2.2.1.ji)
 have y0:=HR3.out.2.2.1.cell 0 rfl
 have hrp3:=hG3.rp i HH.out.2.2.2.1.ji
 rw[gA1_r] at hrp3
 have HRD:=Lib.hid (ready_any (ps i) w3 hrp3 HH.out.2.2.2.1.li.sv0)
 have HG3:=Lib.hid hG3
 clear hG3 hrp3
 clear f1
 go_upto_region 2 with fail
 go_wp2_with fail
 refine HRD.out.mono ?_
 rintro e w4 ⟨v4,rfl,c4,hx4,hf4,hrv4,hsl4⟩
 have HR4:Hid (Lx w c c4∧Fr Fg c w w4∧(c4 gp=200∧Blk w4 gp 69 [.slice (some ⟨br,0,none⟩) g.n cr,.slice (some ⟨bk,0,none⟩) g.n ck,.slice (some ⟨bs,0,none⟩) g.n cs,wv,.slice (some ⟨bt,0,none⟩) g.n ct,ov]∧GP c4 w4 ps (gA2 g i) (.slice (some ⟨br,0,none⟩) g.n cr) (.slice (some ⟨bk,0,none⟩) g.n ck) (.slice (some ⟨bs,0,none⟩) g.n cs) wv (.slice (some ⟨bt,0,none⟩) g.n ct) ov ss3)∧SlR (opE 1) c4 1 w4 v4 (ready (g.r i))):=Lib.hid (by
  have hi:i<5:=by have:=HH.out.2.2.2.1.ji;have:=HH.out.2.2.2.1.n;omega
  have h1:=HR3.out
  have h2:=GV.rp (g:=gA1 g i) ((h1.1 gp HH.out.1.lt).trans HH.out.2.2.1.1) h1.2.2.1 HG3.out HH.out.2.2.2.1.ji HH.out.2.2.2.2.1 hx4 hf4 hrv4
  rw[gA2_is] at h2
  exact⟨h1.1.trans hx4 h1.2.1.size,h1.2.1.trans h1.1 (hf4.mono (Fg_Fi Z11)),h2,hsl4⟩)
 have hsl5:SlR (opE 1) c4 1 w4 v4 (ready (g.r i)):=hsl4
 obtain⟨va4,vc4,ev4⟩:=hsl5.slice
 subst ev4
 clear hx4 hf4 hrv4 hsl4 hsl5 HG3 HR3 HRD x1 y0
 obtain⟨m,hm⟩: ∃m,m=(ready (g.r i)).length:=⟨_,rfl⟩
 rw[←hm] at HR4⊢
 have HM:=Lib.hid hm
 have hm9:m≤1000000:=by
  have:=HH.out.2.2.2.1.li.lo.1
  rw[hm];unfold ready
  rw[List.length_take,List.length_drop];omega
 have HM9:=Lib.hid hm9
 clear hm9
 obtain⟨oa0,oc0,eo0⟩:=HR4.out.2.2.1.2.2.o.slice
 have HST:Hid (∃c' oa oc,SS c w gp g i ps br cr bk ck bs cs wv bt ct ss3 (.slice va4 m vc4) 0 c' w4 oa oc):=Lib.hid ⟨c4,oa0,oc0,HR4.out.1,HR4.out.2.1,⟨HR4.out.2.2.1.1,(HR4.out.1 bt HPI.out.2.2.2.2).trans HH.out.2.2.1.2.2.2.2⟩,by rw[gA3_0,←eo0];exact HR4.out.2.2.1.2.1,by rw[gA3_0,←eo0];exact HR4.out.2.2.1.2.2,HR4.out.2.2.2⟩
 clear hm eo0 HR4
 go_wp2_with fail
 go_loopw [6] (fun kv wr=> ∃k:Nat,k≤m∧kv= .int .i64 (k:Int)∧ ∃c' oa oc,SS c w gp g i ps br cr bk ck bs cs wv bt ct ss3 (.slice va4 m vc4) k c' wr oa oc) (fun kv _=>m-(intOf kv).toNat)
 case atStart=>exact⟨0,Nat.zero_le _,rfl,HST.out⟩
 case round=>
  obtain⟨k,hk,rfl,c5,oa,oc,hss⟩:=hrel
  have HS:=Lib.hid hss
  clear hss HST
  by_cases hkm:k<m
  case pos=>
   obtain⟨o,ho⟩: ∃o,(ready (g.r i))[k]?=some o:=⟨_,List.getElem?_eq_getElem (by have:=HM.out;omega)⟩
   have HO:=Lib.hid ho
   obtain⟨t0,ht0⟩: ∃t0,t0=g.told i+k:=⟨_,rfl⟩
   have HT0:=Lib.hid ht0
   obtain⟨_,_,x3,_,_,f3⟩:=GP.cells (g:=gA3 g i k) HS.out.fgp HH.out.2.2.2.1.ji
   have x3':wr.cell? ⟨bt,i,none⟩=some (.int .i64 (t0:Int)):=by
    rw[x3,ht0]
    show some (Value.int .i64 ((upd g.told i (g.told i+k) i:Nat):Int))=_
    rw[upd_same]
   have y4:=HS.out.fbk.cell 4 rfl
   have hb9:t0≤2000000:=by
    have h1:=HH.out.2.2.2.1.so
    have h2:=HH.out.2.2.2.1.bd.2.2
    have h3:(ready (g.r i)).length≤1000000:=by
     unfold ready
     have:=HH.out.2.2.2.1.li.lo.1
     rw[List.length_take,List.length_drop];omega
    have h4:=HM.out
    omega
   obtain⟨t3,ht3⟩: ∃t3,t3=t0+1:=⟨_,rfl⟩
   have hwr:IntKind.i64.wrap ((t0:Int)+1)=(t3:Int):=by rw[IntWalk.i64_in _ Z11];omega
   have hwr2:wrap64 ((t0:Int)+1)=(t3:Int):=by rw[IntWalk.wrap64_in _ Z11];omega
   have HT3:=Lib.hid ht3
   have HB9:=Lib.hid hb9
   clear ht3 hb9
   have t2:(k:Int)<(m:Int):=by omega
   clear x3 ht0 ho
   go_upto_region 7 with fail
   have HS5:=Lib.hid (GV.t1 (g:=gA3 g i k) HS.out.cg HS.out.fbk HS.out.fgp HH.out.2.2.2.1.ji HH.out.2.2.2.2.1 t3)
   have HX5:Hid (Lx w c c5∧Fr Fg c w (wr.setCell ⟨bt,i,none⟩ (.int .i64 (t3:Int)))∧c5 gp=200∧c5 bt=205):=Lib.hid ⟨HS.out.lx,HS.out.fr.trans HS.out.lx (HS5.out.1.mono fun l hl=>Z65),HS.out.cg⟩
   have HSL:=Lib.hid (HS.out.sl.keep (opE_ok 1) (Lx.refl _ _) fun j hj hl=>HS5.out.1.block j hj fun e=>by
    rcases hl with hl|hl
    ·have h1:c5 j=1:=hl
     rw[e] at h1;omega
    ·rw[e] at hl;omega)
   generalize wr.setCell ⟨bt,i,none⟩ (.int .i64 (t3:Int))=w5 at*
   obtain⟨lk,hlk⟩: ∃lk,lk=(gA3 g i k).order.length:=⟨_,rfl⟩
   have HLK:=Lib.hid (And.intro hlk (gA3_order HH.out.2.2.2.1 (show k≤(ready (g.r i)).length by have:=HM.out;omega)))
   rw[←hlk] at HS5
   have y4:=HS5.out.2.1.cell 4 rfl
   have y5:=HS5.out.2.1.cell 5 rfl
   obtain⟨_,_,x4,_,_,_⟩:=GP.cells (g:= {gA3 g i k with told:=upd (gA3 g i k).told i t3}) HS5.out.2.2 HH.out.2.2.2.1.ji
   have x3:w5.cell? ⟨bt,i,none⟩=some (.int .i64 (t3:Int)):=by
    rw[x4]
    show some (Value.int .i64 ((upd (gA3 g i k).told i t3 i:Nat):Int))=_
    rw[upd_same]
   clear x3' hwr hwr2 f3 hlk x4
   have HXC:Hid (∀W,Below w5.heap.size w5 W→W.cell? ⟨gp,4,none⟩=some (.slice (some ⟨bt,0,none⟩) g.n ct)∧W.cell? ⟨gp,5,none⟩=some (.slice oa lk oc)∧W.cell? ⟨bt,i,none⟩=some (.int .i64 (t3:Int))):=Lib.hid fun W hb=>by
    have h1:=HS5.out.2.1.lt
    have h2:=World.block_lt_of_cell? w5 _ x3
    exact⟨(cell_eq (hb.block gp h1) 4).trans y4,(cell_eq (hb.block gp h1) 5).trans y5,(cell_eq (hb.block bt h2) i).trans x3⟩
   clear y4 y5 x3
   refine wp_region_U (S:=(fun W=>Below w5.heap.size w5 W)) Z27 ?_ ?_
   ·exact(Below.refl _ _).drew
   refine tkU 0 ?_ (y:=Z24)
   try simp only[ap]
   refine tkU 1 ?_ (y:=Z24)
   try simp only[ap]
   refine tkU 2 ?_ (y:=Z24)
   try simp only[ap]
   refine tkU 3 ?_ (y:=Z24)
   try simp only[ap]
   refine tkU 4 ?_ (y:=Z24)
   try simp only[ap]
   refine tkU 5 ?_ (y:=Z24)
   try simp only[ap]
   refine tkU 6 ?_ (y:=Z24)
   try simp only[ap]
   refine tkU 7 ?_ (y:=Z24)
   try simp only[ap]
   refine tkU 8 ?_ (y:=Z24)
   try simp only[ap]
   refine tkU 9 ?_ (y:=Z24)
   try simp only[ap]
   refine tkU 10 ?_ (y:=Z24)
   try simp only[ap]
   refine tkU 11 ?_ (y:=Z24)
   try simp only[ap]
   refine tkU 12 ?_ (y:=Z24)
   try simp only[ap]
   refine wpU_done Z27 ?_ _
   intro w6 hb6
   have HB6:=Lib.hid hb6
   clear hb6
   by_cases hle:t3≤lk
   case pos=>
    have t4:decide ((t3:Int)≤(lk:Int))=true:=by rw[decide_eq_true_iff];omega
    have t4b:(t3:Int)≤(lk:Int):=by omega
    have hol:g.told i+k<g.order.length:=by have h1:=HLK.out;have h2:=HT0.out;have h3:=HT3.out;omega
    have hok:=(HLK.out.2.2 Z11)
    have ho2:(gA3 g i k).order[t0]?=some o:=by
     rw[hok,HT0.out]
     exact(HH.out.2.2.2.1.sm k (by have:=HM.out;omega) hol).trans HO.out
    have hol1:(gA3 g i (k+1)).order=(gA3 g i k).order:=by
     rw[hok]
     exact(gA3_order HH.out.2.2.2.1 (show k+1≤(ready (g.r i)).length by have:=HM.out;omega)).2 Z11
    have hsl:=HS5.out.2.2.o.sl
    rw[HLK.out.1] at hsl
    obtain⟨b2,o2,p2,ub,ubc,e2,hrb,-,hzb⟩:=SlR.at hsl ho2
    cases e2
    obtain⟨b1,o1,p1,ua,uac,e1,hra,hcm,hza⟩:=SlR.at (HM.out▸HSL.out) HO.out
    cases e1
    have HZA:Hid (∀W,Below w5.heap.size w5 W→ ∀(q:Nat) x,(opC o (.slice ua o.c.sco.length uac))[q]?=some x→W.cell? ⟨b1,o1+k*16+q,none⟩=some x):=Lib.hid hza
    have HZB:Hid (∀W,Below w5.heap.size w5 W→ ∀(q:Nat) x,(opC o (.slice ub o.c.sco.length ubc))[q]?=some x→W.cell? ⟨b2,o2+t0*16+q,none⟩=some x):=Lib.hid hzb
    have HSO:Hid (∀W,Below w5.heap.size w5 W→Calls Tryz.prog 29 #[opV o (.slice ub o.c.sco.length ubc),opV o (.slice ua o.c.sco.length uac)] W fun e w'=>e= .returned (.bool true)∧Below W.heap.size W w'):=Lib.hid fun W hb=>op_same o _ _ W (rdS_low hrb fun h0 g hg hlt=>hb.block g hlt) (rdS_low hra fun h0 g hg hlt=>hb.block g hlt) (by have:=hcm.sco;omega)
    have t5:(t0:Int)<(lk:Int):=by have:=HT3.out;omega
    have hwr:IntKind.i64.wrap ((t3:Int)-1)=(t0:Int):=by have:=HT3.out;have:=HB9.out;rw[IntWalk.i64_in _ Z11];omega
    have hwr2:wrap64 ((t3:Int)-1)=(t0:Int):=by have:=HT3.out;have:=HB9.out;rw[IntWalk.wrap64_in _ Z11];omega
    have HOL:=Lib.hid hol1
    clear hol hok ho2 hsl hrb hzb hra hcm hza hol1
    unfold opV at HSO
    go_upto_region 8 with fail
    refine wp_region_U (S:=(fun W=>Below w5.heap.size w5 W)) Z27 ?_ ?_
    ·exact HB6.out.drew
    refine tkU 0 ?_ (y:=Z8)
    try simp only[ap]
    refine tkU 1 ?_ (y:=Z8)
    try simp only[ap]
    refine tkU 2 ?_ (y:=Z8)
    try simp only[ap]
    refine tkU 3 ?_ (y:=Z24)
    try simp only[ap]
    refine tkU 4 ?_ (y:=Z8)
    try simp only[ap]
    refine tkU 5 ?_ (y:=Z8)
    try simp only[ap]
    refine tkU 6 ?_ (y:=Z8)
    try simp only[ap]
    refine tkU 7 ?_ (y:=Z24)
    try simp only[ap]
    refine tkU 8 ?_ (y:=Z8)
    try simp only[ap]
    refine tkU 9 ?_ (y:=Z8)
    try simp only[ap]
    refine tkU 10 ?_ (y:=Z24)
    try simp only[ap]
    refine tkU 11 ?_ (y:=Z8)
    try simp only[ap]
    refine tkU 12 ?_ (y:=Z8)
    try simp only[ap]
    refine tkU 13 ?_ (y:=by refine Or.inl ⟨Z31,?_⟩;intro W hSw;(try dsimp only at hSw);(have z0:=HZB.out W hSw 0 _ rfl);(have z1:=HZB.out W hSw 1 _ rfl);(have z2:=HZB.out W hSw 2 _ rfl);(have z3:=HZB.out W hSw 3 _ rfl);(have z4:=HZB.out W hSw 4 _ rfl);(have z5:=HZB.out W hSw 5 _ rfl);(have z6:=HZB.out W hSw 6 _ rfl);(have z7:=HZB.out W hSw 7 _ rfl);(have z8:=HZB.out W hSw 8 _ rfl);(have z9:=HZB.out W hSw 9 _ rfl);(have z10:=HZB.out W hSw 10 _ rfl);(have z11:=HZB.out W hSw 11 _ rfl);(have z12:=HZB.out W hSw 12 _ rfl);(have z13:=HZB.out W hSw 13 _ rfl);(have z14:=HZB.out W hSw 14 _ rfl);(have z15:=HZB.out W hSw 15 _ rfl);(try rw[Nat.add_zero] at z0);(clear hSw);go_simp;(try with_reducible rfl))
    try simp only[ap]
    refine tkU 14 ?_ (y:=Z8)
    try simp only[ap]
    refine tkU 15 ?_ (y:=Z8)
    try simp only[ap]
    refine tkU 16 ?_ (y:=Z8)
    try simp only[ap]
    refine tkU 17 ?_ (y:=by refine Or.inl ⟨Z31,?_⟩;intro W hSw;(try dsimp only at hSw);(have z0:=HZA.out W hSw 0 _ rfl);(have z1:=HZA.out W hSw 1 _ rfl);(have z2:=HZA.out W hSw 2 _ rfl);(have z3:=HZA.out W hSw 3 _ rfl);(have z4:=HZA.out W hSw 4 _ rfl);(have z5:=HZA.out W hSw 5 _ rfl);(have z6:=HZA.out W hSw 6 _ rfl);(have z7:=HZA.out W hSw 7 _ rfl);(have z8:=HZA.out W hSw 8 _ rfl);(have z9:=HZA.out W hSw 9 _ rfl);(have z10:=HZA.out W hSw 10 _ rfl);(have z11:=HZA.out W hSw 11 _ rfl);(have z12:=HZA.out W hSw 12 _ rfl);(have z13:=HZA.out W hSw 13 _ rfl);(have z14:=HZA.out W hSw 14 _ rfl);(have z15:=HZA.out W hSw 15 _ rfl);(try rw[Nat.add_zero] at z0);(clear hSw);go_simp;(try with_reducible rfl))
    try simp only[ap]
    refine wpU_take (i:=18) (oi:= ?oi54) (v:= .bool true) ?hi54 Z27 Z27 Z27 ?hy54 ?rest54
    case hi54=>exact Z20
    case hy54=>
     refine Or.inr (Or.inr (Or.inl ⟨Z31,29,#[.agg #[.int .i64 o.ed,.int .i64 o.sq,.int .i64 o.lo,.int .i64 o.c.kd,.string ⟨o.c.fam.toArray⟩,.int .i64 o.c.ser,.int .i64 o.c.tok,.string ⟨o.c.cli.toArray⟩,.string ⟨o.c.usr.toArray⟩,.slice ub o.c.sco.length ubc,.string ⟨o.c.red.toArray⟩,.string ⟨o.c.cha.toArray⟩,.string ⟨o.c.met.toArray⟩,.string ⟨o.c.ver.toArray⟩,.bool o.c.rf,.int .i64 o.c.edg],.agg #[.int .i64 o.ed,.int .i64 o.sq,.int .i64 o.lo,.int .i64 o.c.kd,.string ⟨o.c.fam.toArray⟩,.int .i64 o.c.ser,.int .i64 o.c.tok,.string ⟨o.c.cli.toArray⟩,.string ⟨o.c.usr.toArray⟩,.slice ua o.c.sco.length uac,.string ⟨o.c.red.toArray⟩,.string ⟨o.c.cha.toArray⟩,.string ⟨o.c.met.toArray⟩,.string ⟨o.c.ver.toArray⟩,.bool o.c.rf,.int .i64 o.c.edg]],fun W hSw=>(by go_simp),fun W hSw=> ?_⟩))
     exact(HSO.out W hSw).mono fun e w' h=>⟨h.1,hSw.trans (h.2.mono hSw.size)⟩
    try simp only[ap]
    refine tkU 19 ?_ (y:=Z8)
    try simp only[ap]
    refine wpU_done Z27 ?_ _
    intro w7 hb7
    have HB7:=Lib.hid hb7
    clear hb7
    have HN:Hid (∃c' oa oc,SS c w gp g i ps br cr bk ck bs cs wv bt ct ss3 (.slice (some ⟨b1,o1,none⟩) m vc4) (k+1) c' w7 oa oc):=Lib.hid (by
     have hnn:(gA3 g i k).n≤7:=HH.out.2.2.2.2.1
     have h1:=HS5.out.2.2.keep hnn (Lx.refl w5 c5) fun j hj _=>HB7.out.block j hj
     have h2:=HS5.out.2.1.below HB7.out HS5.out.2.1.lt
     have h3:=gA3_step (g:=g) (i:=i) (k:=k) (t3:=t3) (l:=(gA3 g i k).order) (by have:=HT3.out;have:=HT0.out;omega) HOL.out
     rw[h3] at h1
     have h4:lk=(gA3 g i (k+1)).order.length:=by rw[HOL.out];exact HLK.out.1
     rw[h4] at h1 h2
     exact⟨c5,some ⟨b2,o2,none⟩,oc,HX5.out.1,HX5.out.2.1.trans HX5.out.1 (Fr.of_below HB7.out),HX5.out.2.2,h2,h1,HSL.out.keep (opE_ok 1) (Lx.refl _ _) fun j hj _=>HB7.out.block j hj⟩)
    have hk1:k+1≤m:=by omega
    have hm9:=HM9.out
    clear HSO HZA HZB
    exact Z227
   case neg=>
    have t4:decide ((t3:Int)≤(lk:Int))=false:=by rw[decide_eq_false_iff_not];omega
    have t4b: ¬(t3:Int)≤(lk:Int):=by omega
    obtain⟨b1,o1,p1,u,e1,hin,hza⟩:=(HM.out▸HSL.out:SlR (opE 1) c5 1 w5 (.slice va4 (ready (g.r i)).length vc4) (ready (g.r i))).get (opE_ok 1) HO.out
    cases e1
    have hin':TxA 1 c5 w5 u o:=hin
    obtain⟨ua,uac,eu⟩:=hin'.rd.1.slice
    subst eu
    have hlb1:c5 b1=1:=HSL.out.lb (by have:=HM.out;omega) b1 rfl
    have hHZ: ∀(q:Nat) x,(opC o (.slice ua o.c.sco.length uac))[q]?=some x→w5.cell? ⟨b1,o1+k*16+q,none⟩=some x:=hza
    have hlt1:b1<w5.heap.size:=World.block_lt_of_cell? w5 _ (hHZ 0 _ rfl)
    have HZ:Hid (∀W:World,W.heap[b1]?=w5.heap[b1]?→ ∀(q:Nat) x,(opC o (.slice ua o.c.sco.length uac))[q]?=some x→W.cell? ⟨b1,o1+k*16+q,none⟩=some x):=Lib.hid fun W hb q x hx=>(cell_eq hb _).trans (hHZ q x hx)
    have HIN:=Lib.hid (And.intro hin' (And.intro hlb1 hlt1))
    clear hin hin' hza hHZ hlb1 hlt1
    go_upto_region 10 with fail
    refine wp_region_K (fun W=>Hid (W.cell? ⟨gp,5,none⟩=some (.slice oa lk oc)∧ ∀(q:Nat) x,(opC o (.slice ua o.c.sco.length uac))[q]?=some x→W.cell? ⟨b1,o1+k*16+q,none⟩=some x)) 13 Z27 ?_ (fun hHeld1=> ?_)
    ·exact Lib.hid ⟨(HXC.out _ HB6.out.drew).2.1,HZ.out _ (HB6.out.drew.block b1 HIN.out.2.2)⟩
    refine tkK 0 ?_ (y:=Z7)
    try simp only[ap]
    refine tkK 1 ?_ (y:=Z7)
    try simp only[ap]
    refine tkK 2 ?_ (y:=Z7)
    try simp only[ap]
    refine tkK 3 ?_ (y:=Z7)
    try simp only[ap]
    refine tkK 4 ?_ (y:=by refine Or.inl ⟨Z31,?_⟩;intro W hSw;(try dsimp only at hSw);(have q5:=hSw.out.1;clear hSw);go_simp;(try with_reducible rfl))
    try simp only[ap]
    refine tkK 5 ?_ (y:=Z7)
    try simp only[ap]
    refine tkK 6 ?_ (y:=Z7)
    try simp only[ap]
    refine tkK 7 ?_ (y:=Z7)
    try simp only[ap]
    refine tkK 8 ?_ (y:=by refine Or.inl ⟨Z31,?_⟩;intro W hSw;(try dsimp only at hSw);(have hz:=hSw.out.2;clear hSw;(have z0:=hz 0 _ rfl);(have z1:=hz 1 _ rfl);(have z2:=hz 2 _ rfl);(have z3:=hz 3 _ rfl);(have z4:=hz 4 _ rfl);(have z5:=hz 5 _ rfl);(have z6:=hz 6 _ rfl);(have z7:=hz 7 _ rfl);(have z8:=hz 8 _ rfl);(have z9:=hz 9 _ rfl);(have z10:=hz 10 _ rfl);(have z11:=hz 11 _ rfl);(have z12:=hz 12 _ rfl);(have z13:=hz 13 _ rfl);(have z14:=hz 14 _ rfl);(have z15:=hz 15 _ rfl);(try rw[Nat.add_zero] at z0);(clear hz));go_simp;(try with_reducible rfl))
    try simp only[ap]
    refine wpAnyK_ready (rs:= [9]) Z27 Z93 ?_
    refine AllReadyK.cons (o:= ?oi65) ?hi65 (fun K hK=> ?hs65) AllReadyK.nil
    case hi65=>exact Z20
    go_simp
    have HBA:Hid (Below w5.heap.size w5 (w6.drew.alloc (.cells #[.int .i64 o.ed,.int .i64 o.sq,.int .i64 o.lo,.int .i64 o.c.kd,.string ⟨o.c.fam.toArray⟩,.int .i64 o.c.ser,.int .i64 o.c.tok,.string ⟨o.c.cli.toArray⟩,.string ⟨o.c.usr.toArray⟩,.slice ua o.c.sco.length uac,.string ⟨o.c.red.toArray⟩,.string ⟨o.c.cha.toArray⟩,.string ⟨o.c.met.toArray⟩,.string ⟨o.c.ver.toArray⟩,.bool o.c.rf,.int .i64 o.c.edg] 26))):=Lib.hid (HB6.out.drew.alloc HB6.out.size _)
    refine hK.out _ _ ?_ (fun hHeld3=> ?_)
    ·exact Lib.hid ⟨(HXC.out _ HBA.out).2.1,HZ.out _ (HBA.out.block b1 HIN.out.2.2)⟩
    clear hK
    try simp only[ap]
    refine wpAnyK_ready (rs:= [10]) Z27 Z93 ?_
    refine AllReadyK.cons (o:= ?oi66) ?hi66 (fun K hK=> ?hs66) AllReadyK.nil
    case hi66=>exact Z20
    have hnn:(gA3 g i k).n≤7:=HH.out.2.2.2.2.1
    have hGA:=HS5.out.2.2.keep hnn (Lx.refl w5 c5) fun j hj _=>HBA.out.block j hj
    have hBA:=HS5.out.2.1.below HBA.out HS5.out.2.1.lt
    have hro:=hGA.o
    have hinA:TxA 1 c5 (w6.drew.alloc (.cells #[.int .i64 o.ed,.int .i64 o.sq,.int .i64 o.lo,.int .i64 o.c.kd,.string ⟨o.c.fam.toArray⟩,.int .i64 o.c.ser,.int .i64 o.c.tok,.string ⟨o.c.cli.toArray⟩,.string ⟨o.c.usr.toArray⟩,.slice ua o.c.sco.length uac,.string ⟨o.c.red.toArray⟩,.string ⟨o.c.cha.toArray⟩,.string ⟨o.c.met.toArray⟩,.string ⟨o.c.ver.toArray⟩,.bool o.c.rf,.int .i64 o.c.edg] 26)) (.slice ua o.c.sco.length uac) o:=(opE_ok 1).keep _ _ _ _ _ _ HIN.out.1 (Lx.refl w5 c5) fun j hj _=>HBA.out.block j hj
    have hol9:(gA3 g i k).order.length≤3000000:=by have h1:=HLK.out.2.1;have h2:=HH.out.2.2.2.1.bd.2.2;have h3:=HT0.out;have h4:=HB9.out;omega
    have hbn1:(({gA3 g i k with told:=upd (gA3 g i k).told i t3}:Gp Op).order.length+ [o].length)*200≤140737488355328:=by rw[List.length_singleton];show((gA3 g i k).order.length+1)*200≤_;omega
    have hbn2:({gA3 g i k with told:=upd (gA3 g i k).told i t3}:Gp Op).order.length+ [o].length≤maxLen:=by rw[List.length_singleton];show(gA3 g i k).order.length+1≤_;unfold maxLen;omega
    obtain⟨v7,w7,hrun,hx7,hr7,hf7,hbl7⟩:=hro.app (t:=35) (ty:=35) (by_:=200) (xv:= .slice (some ⟨w6.drew.heap.size,0,none⟩) 1 1) (m:= [o]) (opE_ok 1) Tryz.underlying35 op_row rfl ⟨[.slice ua o.c.sco.length uac],Inn.one (E:=opE 1) hinA,by rw[flat_single];exact rd_new w6.drew 16 1 _ 26 rfl⟩ (fun e=>by have:206=1:=e;omega) hbn1 hbn2
    obtain⟨a7,c7,e7⟩:=hr7.slice
    subst e7
    have HRUN:=Lib.hid hrun
    have HR7:=Lib.hid (And.intro hx7 (And.intro hf7 (GV.o1 (g:= {gA3 g i k with told:=upd (gA3 g i k).told i t3}) HX5.out.2.2.1 hBA hGA hnn hx7 hf7 hr7)))
    have HS7:Hid (w7.heap[gp]?=(w6.drew.alloc (.cells #[.int .i64 o.ed,.int .i64 o.sq,.int .i64 o.lo,.int .i64 o.c.kd,.string ⟨o.c.fam.toArray⟩,.int .i64 o.c.ser,.int .i64 o.c.tok,.string ⟨o.c.cli.toArray⟩,.string ⟨o.c.usr.toArray⟩,.slice ua o.c.sco.length uac,.string ⟨o.c.red.toArray⟩,.string ⟨o.c.cha.toArray⟩,.string ⟨o.c.met.toArray⟩,.string ⟨o.c.ver.toArray⟩,.bool o.c.rf,.int .i64 o.c.edg] 26)).heap[gp]?∧w7.heap[b1]?=(w6.drew.alloc (.cells #[.int .i64 o.ed,.int .i64 o.sq,.int .i64 o.lo,.int .i64 o.c.kd,.string ⟨o.c.fam.toArray⟩,.int .i64 o.c.ser,.int .i64 o.c.tok,.string ⟨o.c.cli.toArray⟩,.string ⟨o.c.usr.toArray⟩,.slice ua o.c.sco.length uac,.string ⟨o.c.red.toArray⟩,.string ⟨o.c.cha.toArray⟩,.string ⟨o.c.met.toArray⟩,.string ⟨o.c.ver.toArray⟩,.bool o.c.rf,.int .i64 o.c.edg] 26)).heap[b1]?):=Lib.hid ⟨hf7.block gp hBA.lt (by rw[HX5.out.2.2.1];decide),hf7.block b1 (Nat.lt_of_lt_of_le HIN.out.2.2 HBA.out.size) (by rw[HIN.out.2.1];decide)⟩
    clear hrun hx7 hr7 hf7 hbl7 hGA hBA hro hinA hnn hbn1 hbn2
    refine hs_execK Z31 (exec_appK (.tmp 89) (.tmp 94) 35 rfl rfl rfl HRUN.out) ?_
    refine hK.out _ _ ?_ (fun hHeld4=> ?_)
    ·exact Lib.hid ⟨(cell_eq HS7.out.1 5).trans (HXC.out _ HBA.out).2.1,HZ.out _ (HS7.out.2.trans (HBA.out.block b1 HIN.out.2.2))⟩
    clear hK
    try simp only[ap]
    refine tkK 11 ?_ (y:=Z7)
    try simp only[ap]
    refine tkK 12 ?_ (y:=Z7)
    try simp only[ap]
    refine wpAnyK_lasts [] Z27 Z31 Z31 ?_
    simp only[List.filterMap_cons,List.filterMap_nil,List.getElem?_toArray,List.getElem?_cons_succ,List.getElem?_cons_zero]
    have z5:=(cell_eq HS7.out.1 5).trans (HXC.out _ HBA.out).2.1
    have zf:w7.frozen? ⟨gp,5,none⟩=false:=(frz_eq HS7.out.1 5).trans ((HS5.out.2.1.below HBA.out HS5.out.2.1.lt).frozen 5)
    refine wpList_step fun K hK=> ?_
    rw[if_pos Z31]
    go_simp
    refine hK _ _ ?_
    clear hK
    try simp only[ap]
    have HN:Hid (∃c' oa oc,SS c w gp g i ps br cr bk ck bs cs wv bt ct ss3 (.slice (some ⟨b1,o1,none⟩) m vc4) (k+1) c' (w7.setCell ⟨gp,5,none⟩ (.slice a7 ((gA3 g i k).order.length+1) c7)) oa oc):=Lib.hid (by
     have h0:=HR7.out
     have h9:((gA3 g i k).order++ [o]).length=(gA3 g i k).order.length+1:=by rw[List.length_append];rfl
     have hos:=gA3_succ HH.out.2.2.2.1 HO.out (by have h1:=HLK.out;have h2:=HT0.out;have h3:=HT3.out;omega)
     have h3:=gA3_step (g:=g) (i:=i) (k:=k) (t3:=t3) (by have:=HT3.out;have:=HT0.out;omega) hos
     have h4:=h0.2.2.2.2.2
     have h5:=h0.2.2.2.2.1
     have h6:=h0.2.2.2.1
     have h7:=h0.1
     have h8:=h0.2.2.1
     dsimp only at h4 h5 h6 h7 h8
     rw[h3] at h4
     rw[←hos] at h4 h5 h6 h7 h8
     rw[←h9,←hos]
     have hlx:Lx w c _:=HX5.out.1.trans (fun j hj=>h7 j (Nat.lt_of_lt_of_le hj HBA.out.size)) HX5.out.2.1.size
     refine⟨_,a7,c7,hlx,?_,⟨h8,?_⟩,h5,h4,?_⟩
     ·exact(HX5.out.2.1.trans HX5.out.1 (Fr.of_below HBA.out)).trans HX5.out.1 (h6.mono fun l hl=>Z65)
     ·exact(hlx bt HPI.out.2.2.2.2).trans HH.out.2.2.1.2.2.2.2
     ·refine(HSL.out.keep (opE_ok 1) (Lx.refl _ _) fun j hj _=>HBA.out.block j hj).keep (opE_ok 1) (fun j hj=>h7 j hj) fun j hj hl=>h6.block j hj fun e=> ?_
      rcases hl with hl|hl
      ·have h1:c5 j=1:=hl
       omega
      ·omega)
    have hk1:k+1≤m:=by omega
    have hm9:=HM9.out
    clear HRUN HR7 z5 zf hHeld1 hHeld3 hHeld4
    generalize w7.setCell ⟨gp,5,none⟩ (.slice a7 ((gA3 g i k).order.length+1) c7)=w8 at*
    exact Z227
  case neg=>
   have hke:m=k:=by omega
   subst hke
   obtain⟨x1,_,_,_,_,_⟩:=GP.cells (g:=gA3 g i m) HS.out.fgp HH.out.2.2.2.1.ji
   have y0:=HS.out.fbk.cell 0 rfl
   have y3:=HS.out.fbk.cell 3 rfl
   have hrp:=HS.out.fgp.rp i HH.out.2.2.2.1.ji
   rw[show(gA3 g i m).r i=told {g.r i with saves:= [] } from gA2_r g i] at hrp
   have HOU:=Lib.hid (out_any (ps i) wr.drew (hrp.keep (Lx.refl wr c5) fun _ _ _=>rfl))
   have HPJ:=Lib.hid (And.intro hrp.lt hrp.lb)
   obtain⟨wa,wc,ew⟩:=HS.out.fgp.w.slice
   have ew2:wv= .slice wa g.way.length wc:=ew
   subst ew2
   have HY:=Lib.hid (And.intro y0 (And.intro y3 x1))
   have hi5:i<5:=by have:=HH.out.2.2.2.1.ji;have:=HH.out.2.2.2.1.n;omega
   have HI5:=Lib.hid hi5
   obtain⟨n8,hn8⟩: ∃n8,n8=(g.way++(g.r i).out).length:=⟨_,rfl⟩
   have HN8:=Lib.hid hn8
   clear x1 y0 y3 hrp ew hi5 hk hkm hn8
   go_upto_region 11 with fail
   refine wp_region_K (fun W=>W.cell? ⟨gp,0,none⟩=some (.slice (some ⟨br,0,none⟩) g.n cr)∧W.cell? ⟨gp,3,none⟩=some (.slice wa g.way.length wc)∧W.cell? ⟨br,i,none⟩=some (.pointer (some ⟨ps i,0,none⟩))) 16 Z27 ?_ (fun hHeld1=> ?_)
   ·exact⟨HY.out.1,HY.out.2.1,HY.out.2.2⟩
   refine tkP 0 ?_ (y:=Z189)
   try simp only[ap]
   refine tkK 1 ?_ (y:=Z1)
   try simp only[ap]
   refine tkK 2 ?_ (y:=Z1)
   try simp only[ap]
   refine tkK 3 ?_ (y:=Z1)
   try simp only[ap]
   refine tkK 4 ?_ (y:=Z1)
   try simp only[ap]
   refine tkK 5 ?_ (y:=Z1)
   try simp only[ap]
   refine tkK 6 ?_ (y:=Z1)
   try simp only[ap]
   refine tkK 7 ?_ (y:=Z1)
   try simp only[ap]
   refine tkK 8 ?_ (y:=Z1)
   try simp only[ap]
   refine tkK 9 ?_ (y:=Z1)
   try simp only[ap]
   refine tkK 10 ?_ (y:=Z1)
   try simp only[ap]
   refine tkK 11 ?_ (y:=Z1)
   try simp only[ap]
   refine wpAnyK_ready (rs:= [12]) Z27 Z93 ?_
   refine AllReadyK.cons (o:= ?oi81) ?hi81 (fun K hK=> ?hs81) AllReadyK.nil
   case hi81=>exact Z20
   go_simp
   refine HOU.out.mono ?_
   rintro e w7 ⟨v7,rfl,hrow,hps,hrv⟩
   obtain⟨va,vc,ev⟩:=hrow.slice
   subst ev
   have HP7:Hid (Ps (ps i) wr w7):=Lib.hid ⟨hps.os,hps.tape,hps.output,hps.size,hps.heap⟩
   have HR7:=Lib.hid (And.intro hrow (GV.rp (g:=gA3 g i m) HS.out.cg.1 HS.out.fbk HS.out.fgp HH.out.2.2.2.1.ji HH.out.2.2.2.2.1 (Lx.refl _ _) (HP7.out.fr (F:=Fi i) (by rw[HPJ.out.2];exact Fi_0 i)) hrv))
   have HC7:Hid (w7.cell? ⟨gp,0,none⟩=wr.cell? ⟨gp,0,none⟩∧w7.cell? ⟨gp,3,none⟩=wr.cell? ⟨gp,3,none⟩∧w7.cell? ⟨br,i,none⟩=wr.cell? ⟨br,i,none⟩):=Lib.hid (by
    have h2: ∀b l,c5 b=l→l≥200→b≠ps i:=fun b l hb hl e=>by rw[e,HPJ.out.2] at hb;have:=HI5.out;omega
    have h3:=(HS.out.lx br HPI.out.2.2.1.1).trans HH.out.2.2.1.2.1
    exact⟨cell_eq (HP7.out.heap _ (h2 _ _ HS.out.cg.1 Z37)) _,cell_eq (HP7.out.heap _ (h2 _ _ HS.out.cg.1 Z37)) _,cell_eq (HP7.out.heap _ (h2 _ _ h3 Z37)) _⟩)
   clear hrow hps hrv
   go_wp2_with fail
   refine hK.out _ _ ?_ (fun hHeld2=> ?_)
   ·exact⟨HC7.out.1.trans HY.out.1,HC7.out.2.1.trans HY.out.2.1,HC7.out.2.2.trans HY.out.2.2⟩
   clear hK
   try simp only[ap]
   refine wpAnyK_ready (rs:= [13]) Z27 Z93 ?_
   refine AllReadyK.cons (o:= ?oi82) ?hi82 (fun K hK=> ?hs82) AllReadyK.nil
   case hi82=>exact Z20
   obtain⟨v8,w8,hrun,hx8,hr8,hf8,hbl8⟩:=(HR7.out.2.2.2.w.app (t:=44) (ty:=44) (by_:=96) (m:=(told {g.r i with saves:= [] }).out) (sdE_ok 3) Tryz.underlying44 sd_row rfl HR7.out.1.sl.ex (fun e=>by have:204=3:=e;omega) (by have h1:=HH.out.2.2.2.1.bd.2.1;have h2:(told {g.r i with saves:= [] }).out.length≤50000:=HH.out.2.2.2.1.li.ou;show(g.way.length+_)*96≤_;omega) (by have h1:=HH.out.2.2.2.1.bd.2.1;have h2:(told {g.r i with saves:= [] }).out.length≤50000:=HH.out.2.2.2.1.li.ou;show g.way.length+_≤_;unfold maxLen;omega))
   obtain⟨a8,c8,e8⟩:=hr8.slice
   have e9:v8= .slice a8 n8 c8:=e8.trans (congrArg (fun n=>Value.slice a8 n c8) HN8.out.symm)
   clear e8
   subst e9
   have HRUN:=Lib.hid hrun
   have HR8:=Lib.hid (And.intro hx8 (GV.w1 (g:= {gA3 g i m with r:=upd (gA3 g i m).r i {told {g.r i with saves:= [] } with out:= [] } }) HR7.out.2.1 HR7.out.2.2.1 HR7.out.2.2.2 HH.out.2.2.2.2.1 hx8 hf8 hr8))
   have HC8:Hid (w8.cell? ⟨gp,0,none⟩=w7.cell? ⟨gp,0,none⟩∧w8.cell? ⟨gp,3,none⟩=w7.cell? ⟨gp,3,none⟩∧w8.cell? ⟨br,i,none⟩=w7.cell? ⟨br,i,none⟩∧w8.frozen? ⟨gp,3,none⟩=w7.frozen? ⟨gp,3,none⟩):=Lib.hid (by
    have h1:=hf8.block gp HR7.out.2.2.1.lt (by rw[HS.out.cg.1];decide)
    have h3:=(HS.out.lx br HPI.out.2.2.1.1).trans HH.out.2.2.1.2.1
    have h2:=hf8.block br (by rw[HP7.out.size];exact Nat.lt_of_lt_of_le HPI.out.2.2.1.1 HS.out.fr.size) (by rw[h3];decide)
    exact⟨cell_eq h1 _,cell_eq h1 _,cell_eq h2 _,frz_eq h1 _⟩)
   clear hrun hx8 hr8 hf8 hbl8
   refine hs_execK Z31 (exec_appK (.tmp 102) (.tmp 110) 44 rfl rfl rfl HRUN.out) ?_
   refine hK.out _ _ ?_ (fun hHeld4=> ?_)
   ·exact⟨HC8.out.1.trans (HC7.out.1.trans HY.out.1),HC8.out.2.1.trans (HC7.out.2.1.trans HY.out.2.1),HC8.out.2.2.1.trans (HC7.out.2.2.trans HY.out.2.2)⟩
   clear hK
   try simp only[ap]
   refine tkK 14 ?_ (y:=Z1)
   try simp only[ap]
   refine tkK 15 ?_ (y:=Z1)
   try simp only[ap]
   refine wpAnyK_lasts [] Z27 Z31 Z31 ?_
   simp only[List.filterMap_cons,List.filterMap_nil,List.getElem?_toArray,List.getElem?_cons_succ,List.getElem?_cons_zero]
   have z3:=HC8.out.2.1.trans (HC7.out.2.1.trans HY.out.2.1)
   have zf:w8.frozen? ⟨gp,3,none⟩=false:=HC8.out.2.2.2.trans (HR7.out.2.2.1.frozen 3)
   refine wpList_step fun K hK=> ?_
   rw[if_pos Z31]
   go_simp
   refine hK _ _ ?_
   clear hK
   try simp only[ap]
   have hcm:g.told i+m=(g.r i).cm:=by
    have h1:=HH.out.2.2.2.1
    have h2:=h1.li.bs
    have h3:=ready_len (r:=g.r i) ⟨h2.1,h2.2.1,h2.2.2.1⟩ h1.li.ls
    have h4:=HM.out
    have h5:=h1.td
    omega
   have HF:Hid (∃c9,Lx w c c9∧Fr Fg c w (w8.setCell ⟨gp,3,none⟩ (.slice a8 n8 c8))∧c9 gp=200∧Blk (w8.setCell ⟨gp,3,none⟩ (.slice a8 n8 c8)) gp 69 [.slice (some ⟨br,0,none⟩) g.n cr,.slice (some ⟨bk,0,none⟩) g.n ck,.slice (some ⟨bs,0,none⟩) g.n cs,.slice a8 n8 c8,.slice (some ⟨bt,0,none⟩) g.n ct,.slice oa (gA3 g i m).order.length oc]∧
    GP c9 (w8.setCell ⟨gp,3,none⟩ (.slice a8 n8 c8)) ps (settle g i) (.slice (some ⟨br,0,none⟩) g.n cr) (.slice (some ⟨bk,0,none⟩) g.n ck) (.slice (some ⟨bs,0,none⟩) g.n cs) (.slice a8 n8 c8) (.slice (some ⟨bt,0,none⟩) g.n ct) (.slice oa (gA3 g i m).order.length oc) ss3):=Lib.hid (by
    have h0:=HR8.out
    have hge:=gA_end (g:=g) (i:=i) (m:=m) HM.out hcm
    have h4:=h0.2.2.2.2
    have h5:GP _ _ ps (settle g i) _ _ _ _ _ _ ss3:=hge▸h4
    have hs:wr.heap.size=w7.heap.size:=HP7.out.size.symm
    have hlx:Lx w c _:=HS.out.lx.trans (fun j hj=>h0.1 j (by rw[←hs];exact hj)) HS.out.fr.size
    refine⟨_,hlx,?_,h0.2.1,h0.2.2.2.1,h5⟩
    have h6:Fr Fg c5 wr w7:=(HP7.out.fr (F:=Fi i) (by rw[HPJ.out.2];exact Fi_0 i)).mono (Fg_Fi (by have:=HI5.out;omega))
    exact(HS.out.fr.trans HS.out.lx h6).trans HS.out.lx (h0.2.2.1.mono fun l hl=>Z65))
   have HCM:=Lib.hid hcm
   clear HR8 HRUN HC8 HC7 z3 zf hHeld1 hHeld2 hHeld4 HR7 HP7 HOU HY hcm
   generalize w8.setCell ⟨gp,3,none⟩ (.slice a8 n8 c8)=w9 at*
   obtain⟨c9,hf1,hf2,hf3,hf4,hf5⟩:=HF.out
   obtain⟨x1,_,x3,_,_,_⟩:=GP.cells (g:=settle g i) hf5 HH.out.2.2.2.1.ji
   have y0:=hf4.cell 0 rfl
   have y4:=hf4.cell 4 rfl
   rw[show(settle g i).told i=(g.r i).cm from upd_same _ _ _] at x3
   have hrv:=hf5.rp i HH.out.2.2.2.1.ji
   rw[show(settle g i).r i=clr (g.r i) from upd_same _ _ _] at hrv
   have HST:=Lib.hid (fun W (hb:Below w9.heap.size w9 W)=>stand_any (ps i) W (hrv.below (Lx.refl _ _) hb))
   have HXE:Hid (∀W,Below w9.heap.size w9 W→W.cell? ⟨gp,0,none⟩=some (.slice (some ⟨br,0,none⟩) g.n cr)∧W.cell? ⟨gp,4,none⟩=some (.slice (some ⟨bt,0,none⟩) g.n ct)∧W.cell? ⟨br,i,none⟩=some (.pointer (some ⟨ps i,0,none⟩))∧W.cell? ⟨bt,i,none⟩=some (.int .i64 ((g.r i).cm:Int))):=Lib.hid fun W hb=>
    ⟨(cell_eq (hb.block gp hf4.lt) 0).trans y0,(cell_eq (hb.block gp hf4.lt) 4).trans y4,(cell_eq (hb.block br (World.block_lt_of_cell? w9 _ x1)) i).trans x1,(cell_eq (hb.block bt (World.block_lt_of_cell? w9 _ x3)) i).trans x3⟩
   have HG9:=Lib.hid (And.intro hf1 (And.intro hf2 (And.intro hf3 (And.intro hf4 hf5))))
   clear HF hf1 hf2 hf3 hf4 hf5 x1 x3 y0 y4 hrv
   unfold stdV at HST
   have hfld:=field_std6
   go_upto_region 12 with fail
   refine wp_region_U (S:=(fun W=>Below w9.heap.size w9 W)) Z27 ?_ ?_
   ·exact(Below.refl _ _).drew
   refine tkU 0 ?_ (y:=Z8)
   try simp only[ap]
   refine tkU 1 ?_ (y:=Z8)
   try simp only[ap]
   refine tkU 2 ?_ (y:=Z8)
   try simp only[ap]
   refine tkU 3 ?_ (y:=Z185)
   try simp only[ap]
   refine tkU 4 ?_ (y:=Z8)
   try simp only[ap]
   refine tkU 5 ?_ (y:=Z8)
   try simp only[ap]
   refine tkU 6 ?_ (y:=Z185)
   try simp only[ap]
   refine tkU 7 ?_ (y:=Z8)
   try simp only[ap]
   refine tkU 8 ?_ (y:=Z8)
   try simp only[ap]
   refine tkU 9 ?_ (y:=Z8)
   try simp only[ap]
   refine tkU 10 ?_ (y:=Z185)
   try simp only[ap]
   refine tkU 11 ?_ (y:=Z8)
   try simp only[ap]
   refine tkU 12 ?_ (y:=Z8)
   try simp only[ap]
   refine tkU 13 ?_ (y:=Z185)
   try simp only[ap]
   refine wpU_take (i:=14) (oi:= ?oi99) (v:= .agg #[.int .i64 ((clr (g.r i)).id:Int),.int .i64 ((clr (g.r i)).n:Int),.int .i64 ((clr (g.r i)).st:Int),.int .i64 ((clr (g.r i)).vw:Int),.int .i64 ((clr (g.r i)).nr:Int),.int .i64 ((clr (g.r i)).bs:Int),.int .i64 ((clr (g.r i)).td:Int),.int .i64 ((clr (g.r i)).cm:Int),.int .i64 ((clr (g.r i)).sb:Int),.int .i64 ((clr (g.r i)).ls:Int)]) ?hi99 Z27 Z27 Z27 ?hy99 ?rest99
   case hi99=>exact Z20
   case hy99=>
    refine Or.inr (Or.inr (Or.inl ⟨Z31,15,#[.pointer (some ⟨ps i,0,none⟩)],fun W hSw=>(by go_simp),fun W hSw=> ?_⟩))
    exact(HST.out W hSw).mono fun e w' h=>⟨h.1,hSw.trans (h.2.mono hSw.size)⟩
   try simp only[ap]
   refine tkU 15 ?_ (y:=Z8)
   try simp only[ap]
   refine tkU 16 ?_ (y:=Z8)
   try simp only[ap]
   refine tkU 17 ?_ (y:=Z8)
   try simp only[ap]
   refine wpU_done Z27 ?_ _
   intro wy hby
   have HBY:=Lib.hid hby
   clear hby hfld
   go_wp2_with fail
   go_ret
   refine⟨ret_bool (by show((((g.r i).cm:Nat):Int)==(((clr (g.r i)).td:Nat):Int))=true;exact beq_self_eq_true _),c9,HG9.out.1,HG9.out.2.1.trans HG9.out.1 (Fr.of_below HBY.out),?_⟩
   have hnn:(settle g i).n≤7:=HH.out.2.2.2.2.1
   exact GV.below (g:=settle g i) ⟨HG9.out.2.2.1,ps,_,_,_,_,_,_,ss3,HG9.out.2.2.2.1,HG9.out.2.2.2.2⟩ hnn HBY.out
end Go.Proofs.YtdmjegelcdghlaaGreat.Vw
