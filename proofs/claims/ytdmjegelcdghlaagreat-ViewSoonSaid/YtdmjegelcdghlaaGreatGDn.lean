/-
  Chapter 22: offer, count.
-/
import Derived.Test.YtdmjegelcdghlaaGreatGGen
import Derived.Test.YtdmjegelcdghlaaGreatGDj
import Derived.Test.YtdmjegelcdghlaaGreatGDg
set_option maxRecDepth 100000
set_option maxHeartbeats 64000000
set_option linter.unusedVariables false
set_option linter.unusedSimpArgs false
namespace Go.Proofs.YtdmjegelcdghlaaGreat
theorem Z128 {p:Prop}(h:p:=by
 unfold ints
 rw[List.getElem?_map,List.getElem?_map,hx0]
 rfl):p:=h
theorem Z63 {p:Prop}(h:p:=by
 rw[List.getD_eq_getElem?_getD,List.getElem?_set]
 by_cases e:r.id=k
 ·rw[if_pos e,if_pos (by have:=HH.out.2.2.2.1.hv;have:=HH.out.2.2.2.1.id;omega)];simp
 ·rw[if_neg e]
  have:=HH.out.2.2.2.2.1 k hk
  rw[List.getD_eq_getElem?_getD] at this
  exact this):p:=h
end Go.Proofs.YtdmjegelcdghlaaGreat
namespace Go.Proofs.YtdmjegelcdghlaaGreat.Vw
open Go.RowKit Go.Maps
theorem offer_any {i:Nat}{c:Lb}{r:Rp Op}(p:Nat)(w:World)(h:RV i c w p r)(hn:1≤r.n∧r.n≤7)(hl:r.log.length≤1000000)(hq:r.out.length≤100000):
 Calls Tryz.prog 46 #[.pointer (some ⟨p,0,none⟩)] w fun e w'=>e= .returned (.tuple #[])∧Mt (Gi i) i c w w' p (offer r):=by
 obtain⟨lv,hv,xv,sv,uv,hbp,hrp⟩:=h.ex
 obtain⟨la,lc,el⟩:=hrp.lg.slice
 subst el
 have HH:=Lib.hid (And.intro h (And.intro hrp (And.intro hn (And.intro hl hq))))
 have hcs:=hbp
 unfold rpC at hcs
 have y0:=hcs.cell 0 rfl
 have y1:=hcs.cell 1 rfl
 have y2:=hcs.cell 2 rfl
 have y3:=hcs.cell 3 rfl
 have y4:=hcs.cell 4 rfl
 have y5:=hcs.cell 5 rfl
 have y6:=hcs.cell 6 rfl
 have y7:=hcs.cell 7 rfl
 have y8:=hcs.cell 8 rfl
 have y9:=hcs.cell 9 rfl
 have HP:=Lib.hid hbp
 clear hbp hrp hq h hn hl hcs
 go_enter Tryz.func46,Tryz.ntmps46
 go_upto_region 1 with fail
 obtain⟨w1,hw1⟩: ∃w1,w1=w.alloc (.cells #[.int .i64 (r.id:Int),.int .i64 (r.n:Int),.int .i64 (r.st:Int),.int .i64 (r.vw:Int),.int .i64 (r.nr:Int),.int .i64 (r.bs:Int),.int .i64 (r.td:Int),.int .i64 (r.cm:Int),.int .i64 (r.sb:Int),.int .i64 (r.ls:Int)] 39):=⟨_,rfl⟩
 obtain⟨b1,hb1⟩: ∃b1,b1=w.heap.size:=⟨_,rfl⟩
 have HB1:Hid (Below w.heap.size w w1):=Lib.hid Z41
 have HS1:Hid (Blk w1 b1 39 [.int .i64 (r.id:Int),.int .i64 (r.n:Int),.int .i64 (r.st:Int),.int .i64 (r.vw:Int),.int .i64 (r.nr:Int),.int .i64 (r.bs:Int),.int .i64 (r.td:Int),.int .i64 (r.cm:Int),.int .i64 (r.sb:Int),.int .i64 (r.ls:Int)]):=Lib.hid (by rw[hw1,hb1];exact Blk.new w 39 _)
 rw[←hw1,←hb1]
 clear y0 y1 y2 y3 y4 y5 y6 y7 y8 y9 hw1 hb1
 have HP1:=Lib.hid (HP.out.below HB1.out HP.out.lt)
 have HPR:=Lib.hid (fun W (hb:Below w1.heap.size w1 W)=>primary_any p W (HP1.out.below hb HP1.out.lt) HH.out.2.2.1)
 refine wp_region_K (fun W=>Below w1.heap.size w1 W∧W.cell? ⟨b1,4,none⟩=some (.int .i64 (r.nr:Int))∧W.cell? ⟨b1,5,none⟩=some (.int .i64 (r.bs:Int))∧W.cell? ⟨b1,7,none⟩=some (.int .i64 (r.cm:Int))∧W.cell? ⟨p,10,none⟩=some (.slice la r.log.length lc)) 15 Z27 ?_ (fun hHeld1=> ?_)
 ·exact⟨(Below.refl _ _).drew,HS1.out.cell 4 rfl,HS1.out.cell 5 rfl,HS1.out.cell 7 rfl,HP1.out.cell 10 rfl⟩
 refine tkK 0 ?_ (y:=Z1)
 try simp only[ap]
 refine tkK 1 ?_ (y:=Z1)
 try simp only[ap]
 refine tkK 2 ?_ (y:=Z1)
 try simp only[ap]
 refine tkK 3 ?_ (y:=Z1)
 try simp only[ap]
 refine tkK 4 ?_ (y:=Z1)
 try simp only[ap]
 refine tkK 5 ?_ (y:=Z1)
 try simp only[ap]
 refine tkK 6 ?_ (y:=Z1)
 try simp only[ap]
 refine tkK 7 ?_ (y:=Z1)
 try simp only[ap]
 refine tkK 8 ?_ (y:=Z1)
 try simp only[ap]
 refine tkK 9 ?_ (y:=Z1)
 try simp only[ap]
 refine tkK 10 ?_ (y:=Z1)
 try simp only[ap]
 refine tkK 11 ?_ (y:=Z1)
 try simp only[ap]
 refine tkK 12 ?_ (y:=Z1)
 try simp only[ap]
 refine wpAnyK_ready (rs:= [13]) Z27 Z93 ?_
 refine AllReadyK.cons (o:= ?oi14) ?hi14 (fun K hK=> ?hs14) AllReadyK.nil
 case hi14=>exact Z20
 go_simp
 refine(HPR.out _ (Below.refl _ _).drew).mono ?_
 rintro e w3 ⟨rfl,kk,hw3⟩
 have hb3:Below w1.heap.size w1 w3:=by rw[hw3];exact below_drewN (Below.refl _ _).drew kk
 have HB3:=Lib.hid hb3
 clear hw3 hb3
 go_wp2_with fail
 refine hK.out _ _ ?_ (fun hHeld2=> ?_)
 ·exact⟨HB3.out,(HS1.out.below HB3.out HS1.out.lt).cell 4 rfl,(HS1.out.below HB3.out HS1.out.lt).cell 5 rfl,(HS1.out.below HB3.out HS1.out.lt).cell 7 rfl,(HP1.out.below HB3.out HP1.out.lt).cell 10 rfl⟩
 clear hK
 try simp only[ap]
 refine wpAnyK_ready (rs:= [14]) Z27 Z93 ?_
 refine AllReadyK.cons (o:= ?oi15) ?hi15 (fun K hK=> ?hs15) AllReadyK.nil
 case hi15=>exact Z20
 go_simp
 have HB4:=Lib.hid (HB3.out.alloc HB3.out.size (.cells #[.int .i64 (prm r:Int)] 3))
 refine hK.out _ _ ?_ (fun hHeld3=> ?_)
 ·exact⟨HB4.out,(HS1.out.below HB4.out HS1.out.lt).cell 4 rfl,(HS1.out.below HB4.out HS1.out.lt).cell 5 rfl,(HS1.out.below HB4.out HS1.out.lt).cell 7 rfl,(HP1.out.below HB4.out HP1.out.lt).cell 10 rfl⟩
 clear hK
 try simp only[ap]
 refine wpAnyK_lasts [] Z27 Z31 Z31 ?_
 simp only[List.filterMap_cons,List.filterMap_nil,List.getElem?_toArray,List.getElem?_cons_succ,List.getElem?_cons_zero]
 have hb03:Below w.heap.size w w3:=HB1.out.trans (HB3.out.mono HB1.out.size)
 have HS:=Lib.hid (send_one (i:=i) (c:=c) (r:=r) (lo:=11+10*i) (mOffer r) (prm r) (.slice la r.log.length lc) p w3 (HH.out.1.below (Lx.refl _ _) hb03) (HH.out.2.1.lg.sl.below (opE_ok 1) hb03) (Gi_11 i) (by have:=HH.out.2.2.2.1;show r.log.length≤_;omega) HH.out.2.2.2.2)
 have HB03:=Lib.hid hb03
 unfold mOffer msV at HS
 simp only at HS
 clear hb03 hHeld1 hHeld2 hHeld3
 refine wpList_step fun K hK0=> ?_
 have hK:=Lib.hid hK0
 clear hK0
 rw[if_pos Z31]
 go_simp
 refine HS.out.mono ?_
 rintro e w5 ⟨rfl,hm⟩
 have HM:=Lib.hid hm
 clear hm
 go_wp2_with fail
 refine hK.out _ _ ?_
 clear hK
 try simp only[ap]
 go_wp2_with fail
 refine bodyPost_end (results_none rfl _ _ _) rfl ?_
 exact⟨rfl,Mt.trans (Lx.refl _ _) (Fr.of_below HB03.out) HM.out⟩
theorem flat_nt (l:List Nat)(vs:List Value)(h:vs.length=l.length):flat ntE l vs=(ints l).map (Value.int .i64):=by
 unfold flat ints
 induction l generalizing vs with
 |nil=>simp
 |cons a l ih=>
  cases vs with
  |nil=>simp at h
  |cons u vs=>
   rw[List.zipWith_cons_cons,List.flatten_cons,ih vs (by simpa using h)]
   rfl
theorem SlR.rdInts {c:Lb}{lo:Nat}{W:World}{v:Value}{l:List Nat}(h:SlR ntE c lo W v l):Rd W 1 v (ints l).length ((ints l).map (Value.int .i64)):=by
 obtain⟨⟨vs,h1,h2⟩,_⟩:=h
 rw[flat_nt l vs h1.1] at h2
 have e:(ints l).length=l.length:=by unfold ints;simp
 rw[e];exact h2
theorem Row.setn {c:Lb}{lo:Nat}{W:World}{g cap:Nat}{l:List Nat}(h:Row ntE c lo W (.slice (some ⟨g,0,none⟩) l.length cap) l){j:Nat}(hj:j<l.length)(x:Nat):Row ntE c lo (W.setCell ⟨g,j,none⟩ (.int .i64 (x:Int))) (.slice (some ⟨g,0,none⟩) l.length cap) (l.set j x):=by
 obtain⟨⟨vs,h1,h2⟩,h3⟩:=h
 have h4:=(h2.stored j (.int .i64 (x:Int))).1
 have e:(flat ntE l vs).set j (.int .i64 (x:Int))=flat ntE (l.set j x) vs:=by
  rw[flat_nt l vs h1.1,flat_nt (l.set j x) vs (by simpa using h1.1)]
  unfold ints
  rw[List.map_set,List.map_set]
  rfl
 rw[e] at h4
 refine⟨⟨vs,⟨by simpa using h1.1,fun _ _ _ _ _=>trivial⟩,?_⟩,h3⟩
 rw[List.length_set];exact h4
theorem Row.form {α:Type}{E:Ek α}{c:Lb}{lo:Nat}{W:World}{v:Value}{l:List α}(h:Row E c lo W v l)(h0:0<l.length): ∃g cap,v= .slice (some ⟨g,0,none⟩) l.length cap∧g<W.heap.size∧c g=lo:=by
 obtain⟨⟨vs,h1,h2⟩,h3⟩:=h
 rcases h2.2 with⟨_,h4⟩|⟨g,cap,cur,e,_,hh,_⟩
 ·omega
 ·exact⟨g,cap,e,(Array.getElem?_eq_some_iff.1 hh).1,h3 g (by rw[e];rfl)⟩
theorem count_any {i:Nat}{c:Lb}{r:Rp Op}(p:Nat)(w:World)(h:RV i c w p r)(hl:LI r)(hb: ∀k,k<r.n→r.hv.getD k 0≤r.ls):
 Calls Tryz.prog 50 #[.pointer (some ⟨p,0,none⟩)] w fun e w'=>e= .returned (.tuple #[])∧Mt (Fi i) i c w w' p (count r):=by
 obtain⟨hlp,lv,hv,xv,sv,uv,hbp,hrp⟩:=h
 obtain⟨g,cap,eh,hgl,hgc⟩:=hrp.hv.form (by have:=hl.hv;have:=hl.n;omega)
 subst eh
 have HH:=Lib.hid (And.intro hlp (And.intro hbp (And.intro hrp (And.intro hl (And.intro hb (And.intro hgl hgc))))))
 have hcs:=hbp
 unfold rpC at hcs
 have y0:=hcs.cell 0 rfl
 have y9:=hcs.cell 9 rfl
 have y12:=hcs.cell 12 rfl
 obtain⟨x0,hx0⟩: ∃x,r.hv[r.id]?=some x:=⟨_,List.getElem?_eq_getElem (by have:=hl.hv;have:=hl.id;omega)⟩
 obtain⟨vs,hvi,hvo⟩:=hrp.hv.ex
 have yg:w.cell? ⟨g,r.id,none⟩=some (.int .i64 (x0:Int)):=by
  have h1:=hvo.cellAt r.id (by have:=hl.hv;have:=hl.id;show r.id<r.hv.length*1;omega)
  rw[h1,flat_nt r.hv vs hvi.1]
  exact Z128
 have fg:w.frozen? ⟨g,r.id,none⟩=false:=hvo.frozenAt r.id
 have t1:(r.id:Int)<(r.hv.length:Int):=by have:=hl.hv;have:=hl.id;omega
 clear hlp hbp hrp hl hb hcs hx0 hvi hvo
 go_enter Tryz.func50,Tryz.ntmps50
 go_upto_region 1 with fail
 go_region
 have hne:p≠g:=fun e=>by have h1:=HH.out.1;have h2:=HH.out.2.2.2.2.2.2;rw[e] at h1;omega
 obtain⟨w1,hw1⟩: ∃w1,w1=(w.setCell ⟨g,r.id,none⟩ (.int .i64 (r.ls:Int))).drew:=⟨_,rfl⟩
 have hk1: ∀k,k≠g→w1.heap[k]?=w.heap[k]?:=fun k hk=>by rw[hw1];exact set_heap_ne _ _ _ _ _ hk
 have hs1:w1.heap.size=w.heap.size:=by rw[hw1];exact set_size _ _ _
 have HF1:Hid (Fr (Fi i) c w w1):=Lib.hid (by
  rw[hw1]
  refine(Fr.set (Fr.refl _ c w) ⟨g,r.id,none⟩ (.int .i64 (r.ls:Int)) fun _=> ?_).drew
  rw[show c (Addr.mk g r.id none).block=12+10*i from HH.out.2.2.2.2.2.2]
  unfold Fi;omega)
 have HP1:Hid (Blk w1 p 94 (rpC r lv (.slice (some ⟨g,0,none⟩) r.hv.length cap) xv sv uv)):=Lib.hid ((hk1 p hne).trans HH.out.2.1)
 have HR1:Hid (RP i c w1 {r with hv:=r.hv.set r.id r.ls} lv (.slice (some ⟨g,0,none⟩) r.hv.length cap) xv sv uv):=Lib.hid (by
  have hgc:=HH.out.2.2.2.2.2.2
  have hg: ∀k,k<w.heap.size→c k≠12+10*i→w1.heap[k]?=w.heap[k]?:=fun k _ hk=>hk1 k fun e=>hk (e▸hgc)
  have h1:=HH.out.2.2.1
  have h5:r.id<r.hv.length:=by have:=HH.out.2.2.2.1.hv;have:=HH.out.2.2.2.1.id;omega
  refine⟨h1.lgK (Lx.refl _ _) fun k hk hl=>hg k hk Z11,?_,h1.of.keep (Lx.refl _ _) fun k hk hl=>hg k hk Z11,h1.svK (Lx.refl _ _) fun k hk hl=>hg k hk Z11,h1.ouK (Lx.refl _ _) fun k hk hl=>hg k hk Z11⟩
  have h6:=h1.hv.setn h5 r.ls
  have h7:Row ntE c (12+10*i) w1 (.slice (some ⟨g,0,none⟩) r.hv.length cap) (r.hv.set r.id r.ls):=by rw[hw1];exact h6.keep ntE_ok (Lx.refl _ _) fun _ _ _=>rfl
  exact h7)
 rw[←hw1]
 clear y0 y9 y12 yg fg t1 hw1 hk1 hs1 hne
 have HRC:=Lib.hid (fun W (hb:Below w1.heap.size w1 W)=>reached_any (.slice (some ⟨g,0,none⟩) r.hv.length cap) (ints (r.hv.set r.id r.ls)) (r.n:Int) W ((HR1.out.hv.sl.below ntE_ok hb).rdInts))
 have HST:=Lib.hid (fun W (hb:Below w1.heap.size w1 W)=>stable_any (.slice (some ⟨g,0,none⟩) r.hv.length cap) (ints (r.hv.set r.id r.ls)) (r.n:Int) W ((HR1.out.hv.sl.below ntE_ok hb).rdInts))
 have hbb: ∀k,k<r.n→(r.hv.set r.id r.ls).getD k 0≤r.ls:=fun k hk=>by
  exact Z63
 rw[reached_rch _ r.n r.ls HH.out.2.2.2.1.n hbb] at HRC
 rw[stable_stb _ r.n r.ls HH.out.2.2.2.1.n hbb] at HST
 obtain⟨R,hR⟩: ∃R,R=rch (r.hv.set r.id r.ls) r.n r.ls:=⟨_,rfl⟩
 obtain⟨T,hT⟩: ∃T,T=stb (r.hv.set r.id r.ls) r.n r.ls:=⟨_,rfl⟩
 rw[←hR] at HRC
 rw[←hT] at HST
 have HRT:=Lib.hid (And.intro hR hT)
 clear hbb hR hT
 go_wp2_with fail
 have hmx:max (r.cm:Int) (R:Int)=((max r.cm R:Nat):Int):=by omega
 refine wp_region_K (fun W=>Below w1.heap.size w1 W∧W.cell? ⟨p,7,none⟩=some (.int .i64 (r.cm:Int))∧W.cell? ⟨p,12,none⟩=some (.slice (some ⟨g,0,none⟩) r.hv.length cap)∧W.cell? ⟨p,1,none⟩=some (.int .i64 (r.n:Int))) 17 Z27 ?_ (fun hHeld1=> ?_)
 ·exact⟨(Below.refl _ _).drew,HP1.out.cell 7 rfl,HP1.out.cell 12 rfl,HP1.out.cell 1 rfl⟩
 refine tkK 0 ?_ (y:=Z1)
 try simp only[ap]
 refine tkK 1 ?_ (y:=Z1)
 try simp only[ap]
 refine tkK 2 ?_ (y:=Z1)
 try simp only[ap]
 refine tkK 3 ?_ (y:=Z1)
 try simp only[ap]
 refine tkK 4 ?_ (y:=Z1)
 try simp only[ap]
 refine tkK 5 ?_ (y:=Z1)
 try simp only[ap]
 refine tkK 6 ?_ (y:=Z1)
 try simp only[ap]
 refine tkK 7 ?_ (y:=Z1)
 try simp only[ap]
 refine tkK 8 ?_ (y:=Z1)
 try simp only[ap]
 refine tkK 9 ?_ (y:=Z1)
 try simp only[ap]
 refine tkK 10 ?_ (y:=Z1)
 try simp only[ap]
 refine tkK 11 ?_ (y:=Z1)
 try simp only[ap]
 refine tkK 12 ?_ (y:=Z1)
 try simp only[ap]
 refine wpAnyK_ready (rs:= [13]) Z27 Z93 ?_
 refine AllReadyK.cons (o:= ?oi29) ?hi29 (fun K hK=> ?hs29) AllReadyK.nil
 case hi29=>exact Z20
 go_simp
 refine(HRC.out _ (Below.refl _ _).drew).mono ?_
 rintro e w2 ⟨rfl,hb2⟩
 have HB2:=Lib.hid ((Below.refl w1.heap.size w1).drew.trans hb2)
 have HP2:=Lib.hid (HP1.out.below HB2.out HP1.out.lt)
 clear hb2
 go_wp2_with fail
 refine hK.out _ _ ?_ (fun hHeld2=> ?_)
 ·exact⟨HB2.out,HP2.out.cell 7 rfl,HP2.out.cell 12 rfl,HP2.out.cell 1 rfl⟩
 clear hK
 try simp only[ap]
 refine tkK 14 ?_ (y:=Z1)
 try simp only[ap]
 refine tkK 15 ?_ (y:=Z1)
 try simp only[ap]
 refine tkK 16 ?_ (y:=Z1)
 try simp only[ap]
 refine wpAnyK_lasts [] Z27 Z31 Z31 ?_
 simp only[List.filterMap_cons,List.filterMap_nil,List.getElem?_toArray,List.getElem?_cons_succ,List.getElem?_cons_zero]
 have y7:=HP2.out.cell 7 rfl
 have f7:=HP2.out.frozen 7
 refine wpList_step fun K hK=> ?_
 rw[if_pos Z31]
 go_simp
 refine hK _ _ ?_
 clear hK
 try simp only[ap]
 have hps:Ps p w2 (w2.setCell ⟨p,7,none⟩ (.int .i64 ((max r.cm R:Nat):Int))):=(Ps.refl p w2).set _ _
 have HP3:Hid (Blk (w2.setCell ⟨p,7,none⟩ (.int .i64 ((max r.cm R:Nat):Int))) p 94 (rpC {r with cm:=max r.cm R} lv (.slice (some ⟨g,0,none⟩) r.hv.length cap) xv sv uv)):=Lib.hid (HP2.out.set 7 _)
 have HR3:Hid (RP i c (w2.setCell ⟨p,7,none⟩ (.int .i64 ((max r.cm R:Nat):Int))) {r with hv:=r.hv.set r.id r.ls,cm:=max r.cm R} lv (.slice (some ⟨g,0,none⟩) r.hv.length cap) xv sv uv):=Lib.hid (by
  have h1:=(HR1.out.below (Lx.refl _ _) HB2.out).ps HH.out.1 hps
  exact⟨h1.lg,h1.hv,h1.of,h1.sv,h1.ou⟩)
 have HF3:Hid (Fr (Fi i) c w (w2.setCell ⟨p,7,none⟩ (.int .i64 ((max r.cm R:Nat):Int)))):=Lib.hid ((HF1.out.trans (Lx.refl _ _) (Fr.of_below HB2.out)).trans (Lx.refl _ _) (hps.fr (by rw[HH.out.1];exact Fi_0 i)))
 clear hps y7 f7 hHeld1 hHeld2 hmx HP2 HRC
 go_wp2_with fail
 generalize w2.setCell ⟨p,7,none⟩ (.int .i64 ((max r.cm R:Nat):Int))=w3 at*
 have HST3:=Lib.hid (fun W (hb:Below w3.heap.size w3 W)=>stable_any (.slice (some ⟨g,0,none⟩) r.hv.length cap) (ints (r.hv.set r.id r.ls)) (r.n:Int) W ((HR3.out.hv.sl.below ntE_ok hb).rdInts))
 have hbb: ∀k,k<r.n→(r.hv.set r.id r.ls).getD k 0≤r.ls:=fun k hk=>by
  exact Z63
 rw[stable_stb _ r.n r.ls HH.out.2.2.2.1.n hbb,←HRT.out.2] at HST3
 clear hbb HST
 have hmn:min (T:Int) ((max r.cm R:Nat):Int)=((min T (max r.cm R):Nat):Int):=by omega
 have hmx:max (r.sb:Int) ((min T (max r.cm R):Nat):Int)=((max r.sb (min T (max r.cm R)):Nat):Int):=by omega
 have hmx2:max (r.cm:Int) (R:Int)=((max r.cm R:Nat):Int):=by omega
 refine wp_region_K (fun W=>Below w3.heap.size w3 W∧W.cell? ⟨p,8,none⟩=some (.int .i64 (r.sb:Int))∧W.cell? ⟨p,7,none⟩=some (.int .i64 ((max r.cm R:Nat):Int))∧W.cell? ⟨p,12,none⟩=some (.slice (some ⟨g,0,none⟩) r.hv.length cap)∧W.cell? ⟨p,1,none⟩=some (.int .i64 (r.n:Int))) 22 Z27 ?_ (fun hHeld1=> ?_)
 ·exact⟨(Below.refl _ _).drew,HP3.out.cell 8 rfl,HP3.out.cell 7 rfl,HP3.out.cell 12 rfl,HP3.out.cell 1 rfl⟩
 refine tkK 0 ?_ (y:=Z1)
 try simp only[ap]
 refine tkK 1 ?_ (y:=Z1)
 try simp only[ap]
 refine tkK 2 ?_ (y:=Z1)
 try simp only[ap]
 refine tkK 3 ?_ (y:=Z1)
 try simp only[ap]
 refine tkK 4 ?_ (y:=Z1)
 try simp only[ap]
 refine tkK 5 ?_ (y:=Z1)
 try simp only[ap]
 refine tkK 6 ?_ (y:=Z1)
 try simp only[ap]
 refine tkK 7 ?_ (y:=Z1)
 try simp only[ap]
 refine tkK 8 ?_ (y:=Z1)
 try simp only[ap]
 refine tkK 9 ?_ (y:=Z1)
 try simp only[ap]
 refine tkK 10 ?_ (y:=Z1)
 try simp only[ap]
 refine tkK 11 ?_ (y:=Z1)
 try simp only[ap]
 refine tkK 12 ?_ (y:=Z1)
 try simp only[ap]
 refine tkK 14 ?_ (y:=Z1)
 try simp only[ap]
 refine tkK 15 ?_ (y:=Z1)
 try simp only[ap]
 refine tkK 16 ?_ (y:=Z1)
 try simp only[ap]
 refine tkK 17 ?_ (y:=Z1)
 try simp only[ap]
 refine wpAnyK_ready (rs:= [13]) Z27 Z93 ?_
 refine AllReadyK.cons (o:= ?oi50) ?hi50 (fun K hK=> ?hs50) AllReadyK.nil
 case hi50=>exact Z20
 go_simp
 refine(HST3.out _ (Below.refl _ _).drew).mono ?_
 rintro e w4 ⟨rfl,hb4⟩
 have HB4:=Lib.hid ((Below.refl w3.heap.size w3).drew.trans hb4)
 have HP4:=Lib.hid (HP3.out.below HB4.out HP3.out.lt)
 clear hb4
 go_wp2_with fail
 refine hK.out _ _ ?_ (fun hHeld2=> ?_)
 ·exact⟨HB4.out,HP4.out.cell 8 rfl,HP4.out.cell 7 rfl,HP4.out.cell 12 rfl,HP4.out.cell 1 rfl⟩
 clear hK
 try simp only[ap]
 refine tkK 18 ?_ (y:=Z1)
 try simp only[ap]
 refine tkK 19 ?_ (y:=Z1)
 try simp only[ap]
 refine tkK 20 ?_ (y:=Z1)
 try simp only[ap]
 refine tkK 21 ?_ (y:=Z1)
 try simp only[ap]
 refine wpAnyK_lasts [] Z27 Z31 Z31 ?_
 simp only[List.filterMap_cons,List.filterMap_nil,List.getElem?_toArray,List.getElem?_cons_succ,List.getElem?_cons_zero]
 have y8:=HP4.out.cell 8 rfl
 have f8:=HP4.out.frozen 8
 refine wpList_step fun K hK=> ?_
 rw[if_pos Z31]
 go_simp
 refine hK _ _ ?_
 clear hK
 try simp only[ap]
 have hps:Ps p w4 (w4.setCell ⟨p,8,none⟩ (.int .i64 ((max r.sb (min T (max r.cm R)):Nat):Int))):=(Ps.refl p w4).set _ _
 have HD:Hid (Mt (Fi i) i c w (w4.setCell ⟨p,8,none⟩ (.int .i64 ((max r.sb (min T (max r.cm R)):Nat):Int))) p (count r)):=Lib.hid (by
  refine⟨c,Lx.refl _ _,(HF3.out.trans (Lx.refl _ _) (Fr.of_below HB4.out)).trans (Lx.refl _ _) (hps.fr (by rw[HH.out.1];exact Fi_0 i)),HH.out.1,lv,.slice (some ⟨g,0,none⟩) r.hv.length cap,xv,sv,uv,?_,?_⟩
  ·have h1:=HP4.out.set 8 (.int .i64 ((max r.sb (min T (max r.cm R)):Nat):Int))
   have h2:count r= {r with hv:=r.hv.set r.id r.ls,cm:=max r.cm R,sb:=max r.sb (min T (max r.cm R))}:=by
    rw[HRT.out.1,HRT.out.2]
    rfl
   rw[h2]
   exact h1
  ·have h1:=(HR3.out.below (Lx.refl _ _) HB4.out).ps HH.out.1 hps
   have h2:count r= {r with hv:=r.hv.set r.id r.ls,cm:=max r.cm R,sb:=max r.sb (min T (max r.cm R))}:=by
    rw[HRT.out.1,HRT.out.2]
    rfl
   rw[h2]
   exact⟨h1.lg,h1.hv,h1.of,h1.sv,h1.ou⟩)
 clear y8 f8 hps hHeld1 hHeld2 hmn hmx hmx2
 go_wp2_with fail
 refine bodyPost_end (results_none rfl _ _ _) rfl ?_
 exact⟨rfl,HD.out⟩
end Go.Proofs.YtdmjegelcdghlaaGreat.Vw
