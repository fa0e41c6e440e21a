/-
  Chapter 22: what lasted is loaded.
-/
import Derived.Test.YtdmjegelcdghlaaGreatGGen
import Derived.Test.YtdmjegelcdghlaaGreatGKf
set_option maxRecDepth 100000
set_option maxHeartbeats 64000000
set_option linter.unusedVariables false
set_option linter.unusedSimpArgs false
namespace Go.Proofs.YtdmjegelcdghlaaGreat
theorem Z221 {p:Prop}(h:p:=by
 refine Or.inr (Or.inr (Or.inl ⟨Z31,75,#[.slice xa x.ops.length xc],fun W hSw=>(by go_simp),fun W hSw=> ?_⟩))
 exact Z49):p:=h
theorem Z217 {p:Prop}(h:p:=by
 go_wp2_with fail
 all_goals first|(go_ret2;show LdR i c w (loadZ id n k l) _ _;rw[HD.out];exact⟨rfl,HX2.out.2.1,_,HX2.out.1⟩)|(exfalso;omega)):p:=h
theorem Z209 {p:Prop}(h:p:=by
 go_wp2_with fail
 all_goals try(exfalso;omega)
 go_roundw
 case rel=>
  obtain⟨r',c'',g1⟩:=HN.out
  exact⟨j+1,Z81,Z11,r',c'',g1⟩
 case measure=>simp[intOf];omega):p:=h
theorem Z200 {p:Prop}(h:p:=by
 go_quiet (fail)
 go_wp2_with fail
 all_goals first|(go_ret2;show LdR i c w (loadZ id n k l) _ _;rw[HD.out];exact⟨rfl,HXy.out.2.1.trans HXy.out.1 (Fr.of_below (below_drewN (Below.refl _ _) _)),_,HXy.out.1⟩)|(exfalso;omega)):p:=h
theorem Z117 {p:Prop}(h:p:=by
 clear hSw
 go_simp
 try rfl):p:=h
theorem Z54 {p:Prop}(h:p:=by
 go_wp2_with fail
 all_goals first|(go_ret2;show LdR i c w (loadZ id n k l) _ _;rw[HD.out];exact⟨rfl,HXy.out.2.1,_,HXy.out.1⟩)|(exfalso;omega)):p:=h
theorem Z49 {p:Prop}(h:p:=by
 refine(fine_any (.slice xa x.ops.length xc) x.ops W (HOx.out.below (opE_ok l2) hSw.2.2.2) (by have:=HXI.out.1.n;omega)).mono ?_
 rintro e w9 ⟨rfl,hb9⟩
 have hb:=hSw.2.2.2.trans (hb9.mono hSw.2.2.2.size)
 exact⟨by rw[hfi],(HB14.out.below hb HB14.out.lt).cell 1 rfl,(HB14.out.below hb HB14.out.lt).cell 3 rfl,(HPx.out.2.1.below hb HPx.out.2.1.lt).cell 3 rfl,hb⟩):p:=h
theorem Z47 {p:Prop}(h:p:=by
 skip
 have HD:Hid (loadZ id n k l=none):=Lib.hid (by
  rw[HLZ.out,HLD.out]
  unfold ldSz
  rw[if_neg (by rintro⟨q1,q2,q3⟩;omega)])
 go_quiet (fail)
 go_wp2_with fail
 all_goals first|(go_ret2;show LdR i c w (loadZ id n k l) _ _;rw[HD.out];exact⟨rfl,HXx.out.2.1.trans HXx.out.1 (Fr.of_below (below_drewN (Below.refl _ _) _)),_,HXx.out.1⟩)|(exfalso;omega)):p:=h
theorem Z32 {p:Prop}(h:p:=by
 skip
 have HD:Hid (loadZ id n k l=none):=Lib.hid (by
  rw[HLZ.out,HLD.out]
  unfold ldSz
  rw[if_pos HSO.out,if_neg HLG.out,if_neg (by rintro⟨q1,q2,q3,q4,q5⟩;omega)])
 exact Z200):p:=h
theorem Z30 {p:Prop}(h:p:=by
 have HD:Hid (loadZ id n k l=none):=Lib.hid (by
  unfold loadZ ldKz
  rw[if_neg (by
   rintro⟨q1,q2,q3,q4,q5,q6,q7,q8⟩
   omega)])
 exact Z217):p:=h
theorem Z25 {p:Prop}(h:p:=by refine Or.inl ⟨by rfl,?_⟩;intro n W hn hSw;(have hz:Blk W b14 51 [.bool x.lg,.int .i64 x.vw,.int .i64 x.ao,.slice xa x.ops.length xc,.int .i64 x.sb]:=(hSw.1.heap b14 hne).trans HBz.out);(have z1:=hz.cell 1 rfl);(clear hz hSw);go_simp;(try with_reducible rfl)):p:=h
theorem Z4 {p:Prop}(h:p:=by refine Or.inl ⟨by rfl,?_⟩;intro n W hn hSw;(have hz:Blk W b6 47 [.int .i64 k.vw,.int .i64 k.nr,.int .i64 k.bs,.int .i64 k.cm,.slice ka k.ops.length kc]:=(hSw.1.heap b6 HP3.out.2.2.2).trans HM3.out.1);(have z0:=hz.cell 0 rfl);(have z1:=hz.cell 1 rfl);(have z2:=hz.cell 2 rfl);(have z3:=hz.cell 3 rfl);(have z4:=hz.cell 4 rfl);(clear hz hSw);go_simp;(try with_reducible rfl)):p:=h
end Go.Proofs.YtdmjegelcdghlaaGreat
namespace Go.Proofs.YtdmjegelcdghlaaGreat.Vw
open Go.RowKit Go.Maps
structure LN (id n:Nat)(N:Nat)(r:Rp Op):Prop where
 id:r.id=id
 nn:r.n=n
 ls:r.ls=r.bs+r.log.length
 bs:r.bs≤1099511627776
 lo:r.log.length≤N
 vw:r.vw≤1099511627776
 cm:r.cm≤r.ls
 sb:r.sb≤r.ls
 of: ∀k,r.offs k=none
theorem LN.up {id n N N':Nat}{r:Rp Op}(h:LN id n N r)(hN:N≤N'):LN id n N' r:=⟨h.id,h.nn,h.ls,h.bs,Nat.le_trans h.lo hN,h.vw,h.cm,h.sb,h.of⟩
theorem LN.lay2 {id n N:Nat}{r:Rp Op}(h:LN id n N r){x:Sz}(h1:sok r x)(h2:sok1 r x):LN id n (N+x.ops.length) (lay2 r x):=by
 obtain⟨a1,a2,a3⟩:=h1
 obtain⟨b1,b2,b3,b4,b5⟩:=h2
 have hls:=h.ls
 have hlen:(layL r x.ao.toNat x.ops).length=x.ao.toNat+x.ops.length-r.bs:=layL_len r x.ao.toNat x.ops Z11 h.ls Z11
 refine⟨h.id,h.nn,rfl,h.bs,?_,?_,?_,?_,h.of⟩
 ·show(layL r x.ao.toNat x.ops).length≤_
  have:=h.lo
  omega
 ·show x.vw.toNat≤_
  omega
 ·show r.cm≤r.bs+(layL r x.ao.toNat x.ops).length
  omega
 ·show max r.sb (min x.sb.toNat (r.bs+(layL r x.ao.toNat x.ops).length))≤r.bs+(layL r x.ao.toNat x.ops).length
  omega
theorem LN.r0 {id n:Nat}{k:Kz}(h:kok k):LN id n k.ops.length (r0z id n k):=by
 obtain⟨h1,h2,h3,h4,h5,h6,h7,h8⟩:=h
 refine⟨rfl,rfl,rfl,?_,Nat.le_refl _,?_,?_,Nat.zero_le _,fun _=>rfl⟩
 ·show k.bs.toNat≤_
  omega
 ·show k.vw.toNat≤_
  omega
 ·show k.cm.toNat≤k.bs.toNat+k.ops.length
  omega
theorem totS_take (l:List Sz)(j:Nat)(x:Sz)(h:l[j]?=some x):totS (l.take (j+1))=totS (l.take j)+x.ops.length:=by
 unfold totS
 rw[List.take_add_one,h,List.map_append,List.sum_append]
 simp
theorem totS_le (l:List Sz)(j:Nat):totS (l.take j)≤totS l:=by
 have h:=List.take_append_drop j l
 have h2:totS l=totS (l.take j)+totS (l.drop j):=by
  unfold totS
  rw[←List.sum_append,←List.map_append,h]
 omega
theorem ldLz_drop {r:Rp Op}{l:List Sz}{j:Nat}{x:Sz}(h:l[j]?=some x):ldLz r (l.drop j)=(match ldSz r x with|none=>none|some r1=>ldLz r1 (l.drop (j+1))):=by
 have hj:=(List.getElem?_eq_some_iff.1 h).1
 rw[List.drop_eq_getElem_cons hj,(List.getElem?_eq_some_iff.1 h).2]
 rfl
theorem load_any {i lo li lo2 l2:Nat}{c:Lb}(id n:Nat)(k:Kz)(l:List Sz)(ku sv:Value)(w:World)(hn:1≤n∧n≤7∧id<n)(hk:SlR (opE li) c lo w ku k.ops)(hs:SlR (szE l2) c lo2 w sv l)(hlb:(¬Fi i lo∧ ¬Fi i li)∧ ¬Fi i lo2∧ ¬Fi i l2)(hN:k.ops.length+totS l≤900000∧l.length≤100000):
 Calls Tryz.prog 35 #[.int .i64 (id:Int),.int .i64 (n:Int),.agg #[.int .i64 k.vw,.int .i64 k.nr,.int .i64 k.bs,.int .i64 k.cm,ku],sv] w fun e w'=>LdR i c w (loadZ id n k l) e w':=by
 obtain⟨ka,kc,ek⟩:=hk.slice
 subst ek
 obtain⟨sa,sc,es⟩:=hs.slice
 subst es
 have HH:=Lib.hid (And.intro hn (And.intro hlb hN))
 have HK:=Lib.hid hk
 have HSV:=Lib.hid hs
 clear hn hlb hN hk hs
 go_enter Tryz.func35,Tryz.ntmps35
 go_upto_region 1 with fail
 obtain⟨w1,hw1⟩: ∃w1,w1=w.alloc (.cells #[.int .i64 k.vw,.int .i64 k.nr,.int .i64 k.bs,.int .i64 k.cm,.slice ka k.ops.length kc] 47):=⟨_,rfl⟩
 obtain⟨b6,hb6⟩: ∃b6,b6=w.heap.size:=⟨_,rfl⟩
 have HB1:Hid (Below w.heap.size w w1):=Lib.hid Z41
 have HM1:Hid (Blk w1 b6 47 [.int .i64 k.vw,.int .i64 k.nr,.int .i64 k.bs,.int .i64 k.cm,.slice ka k.ops.length kc]):=Lib.hid (by rw[hw1,hb6];exact Blk.new w 47 _)
 obtain⟨c1,hc1⟩: ∃c1,c1=c.ext w.heap.size:=⟨_,rfl⟩
 have HC1:Hid (Lx w c c1∧c1 b6=1):=Lib.hid ⟨by rw[hc1];exact c.ext_lx w,by rw[hc1,hb6];exact c.ext_new (Nat.le_refl _)⟩
 rw[←hw1,←hb6]
 clear hw1 hb6 hc1
 have HNW:=Lib.hid (new_any i c1 id n w1 HH.out.1)
 go_wp2_with fail
 refine HNW.out.mono ?_
 rintro e w2 ⟨p,rfl,hp1,hb2,c2,hx2,hv2⟩
 have HX2:Hid (Lx w c c2∧Fr (Fi i) c w w2∧RV i c2 w2 p (newR id n)∧w.heap.size≤p):=Lib.hid ⟨HC1.out.1.trans hx2 HB1.out.size,Fr.of_below (HB1.out.trans (hb2.mono HB1.out.size)),hv2,Nat.le_trans HB1.out.size hp1⟩
 have HM2:Hid (Blk w2 b6 47 [.int .i64 k.vw,.int .i64 k.nr,.int .i64 k.bs,.int .i64 k.cm,.slice ka k.ops.length kc]∧c2 b6=1):=Lib.hid ⟨HM1.out.below hb2 HM1.out.lt,(hx2 b6 HM1.out.lt).trans HC1.out.2⟩
 have HK2:Hid (SlR (opE li) c2 lo w2 (.slice ka k.ops.length kc) k.ops):=Lib.hid ((HK.out.lx (opE_ok li) HX2.out.1).below (opE_ok li) (HB1.out.trans (hb2.mono HB1.out.size)))
 have HF:=Lib.hid (fine_any (.slice ka k.ops.length kc) k.ops w2 HK2.out (by have:=HH.out.2.2.1;omega))
 clear hp1 hb2 hx2 hv2 HNW
 have z0:=HM2.out.1.cell 0 rfl
 have z1:=HM2.out.1.cell 1 rfl
 have z2:=HM2.out.1.cell 2 rfl
 have z3:=HM2.out.1.cell 3 rfl
 have z4:=HM2.out.1.cell 4 rfl
 go_upto_region 4 with fail
 obtain⟨kl,hkl⟩: ∃kl,IntKind.i64.wrap (k.bs+(k.ops.length:Int))=kl:=⟨_,rfl⟩
 have HKL:Hid (0≤k.bs→k.bs≤1099511627776→kl=k.bs+(k.ops.length:Int)):=Lib.hid fun h1 h2=>by
  rw[←hkl]
  have:=HH.out.2.2.1
  exact IntWalk.i64_in _ Z11
 by_cases h0:k.nr<0
 ·exact Z30
 by_cases h1:k.vw<k.nr
 ·exact Z30
 by_cases h2:1099511627776<k.vw
 ·exact Z30
 by_cases h3:k.bs<0
 ·exact Z30
 by_cases h4:1099511627776<k.bs
 ·exact Z30
 by_cases h5:k.cm<k.bs
 ·exact Z30
 by_cases h6:kl<k.cm
 ·have HD:Hid (loadZ id n k l=none):=Lib.hid (by
   unfold loadZ ldKz
   rw[if_neg (by
    rintro⟨q1,q2,q3,q4,q5,q6,q7,q8⟩
    have:=HKL.out q4 q5;omega)])
  exact Z217
 go_wp2_with fail
 all_goals try(exfalso;omega)
 refine HF.out.mono ?_
 rintro e w3 ⟨rfl,hb3⟩
 have HX3:Hid (Lx w c c2∧Fr (Fi i) c w w3∧RV i c2 w3 p (newR id n)):=Lib.hid ⟨HX2.out.1,HX2.out.2.1.trans HX2.out.1 (Fr.of_below hb3),HX2.out.2.2.1.below (Lx.refl _ _) hb3⟩
 have HM3:Hid (Blk w3 b6 47 [.int .i64 k.vw,.int .i64 k.nr,.int .i64 k.bs,.int .i64 k.cm,.slice ka k.ops.length kc]∧c2 b6=1):=Lib.hid ⟨HM2.out.1.below hb3 HM2.out.1.lt,HM2.out.2⟩
 have HK3:Hid (SlR (opE li) c2 lo w3 (.slice ka k.ops.length kc) k.ops):=Lib.hid (HK2.out.below (opE_ok li) hb3)
 clear z0 z1 z2 z3 z4 hb3 HF
 cases hfi:k.ops.all mayO
 ·have HD:Hid (loadZ id n k l=none):=Lib.hid (by
   unfold loadZ ldKz
   rw[if_neg (by
    rintro⟨q1,q2,q3,q4,q5,q6,q7,q8⟩
    rw[hfi] at q8
    cases q8)])
  clear hfi
  go_wp2_with fail
  go_ret2
  show LdR i c w (loadZ id n k l) _ _
  rw[HD.out]
  exact⟨rfl,HX3.out.2.1,_,HX3.out.1⟩
 have HKO:Hid (kok k):=Lib.hid ⟨Z11,Z11,Z11,Z11,Z11,Z11,by have:=HKL.out Z11 Z11;omega,hfi⟩
 have HKL2:Hid (kl=k.bs+(k.ops.length:Int)):=Lib.hid (HKL.out HKO.out.2.2.2.1 HKO.out.2.2.2.2.1)
 clear hfi h0 h1 h2 h3 h4 h5 h6
 obtain⟨hlp3,lv,hv,xv,sv',uv,hbp3,hrp3⟩:=HX3.out.2.2
 have hne:b6≠p:=fun e=>by have h1:=HM3.out.2;rw[e,hlp3] at h1;omega
 have HP3:=Lib.hid (And.intro hlp3 (And.intro hbp3 (And.intro hrp3 hne)))
 clear hlp3 hbp3 hrp3 hne
 go_upto_region 7 with fail
 refine wp_region_W [24,27,30,33,36,39] (fun nn W=>Ps p w3 W∧Blk W p 94 (match nn with|0=> [.int .i64 (id:Int),.int .i64 (n:Int),.int .i64 0,.int .i64 0,.int .i64 0,.int .i64 0,.int .i64 0,.int .i64 0,.int .i64 0,.int .i64 0,lv,.int .i64 0,hv,xv,sv',uv]|1=> [.int .i64 (id:Int),.int .i64 (n:Int),.int .i64 0,.int .i64 k.vw,.int .i64 0,.int .i64 0,.int .i64 0,.int .i64 0,.int .i64 0,.int .i64 0,lv,.int .i64 0,hv,xv,sv',uv]|2=> [.int .i64 (id:Int),.int .i64 (n:Int),.int .i64 0,.int .i64 k.vw,.int .i64 k.nr,.int .i64 0,.int .i64 0,.int .i64 0,.int .i64 0,.int .i64 0,lv,.int .i64 0,hv,xv,sv',uv]|3=> [.int .i64 (id:Int),.int .i64 (n:Int),.int .i64 0,.int .i64 k.vw,.int .i64 k.nr,.int .i64 k.bs,.int .i64 0,.int .i64 0,.int .i64 0,.int .i64 0,lv,.int .i64 0,hv,xv,sv',uv]|4=> [.int .i64 (id:Int),.int .i64 (n:Int),.int .i64 0,.int .i64 k.vw,.int .i64 k.nr,.int .i64 k.bs,.int .i64 0,.int .i64 k.cm,.int .i64 0,.int .i64 0,lv,.int .i64 0,hv,xv,sv',uv]|5=> [.int .i64 (id:Int),.int .i64 (n:Int),.int .i64 0,.int .i64 k.vw,.int .i64 k.nr,.int .i64 k.bs,.int .i64 k.cm,.int .i64 k.cm,.int .i64 0,.int .i64 0,lv,.int .i64 0,hv,xv,sv',uv]|_=> [.int .i64 (id:Int),.int .i64 (n:Int),.int .i64 0,.int .i64 k.vw,.int .i64 k.nr,.int .i64 k.bs,.int .i64 k.cm,.int .i64 k.cm,.int .i64 0,.int .i64 kl,lv,.int .i64 0,hv,xv,sv',uv])) Z27 Z31 ?_ ?_
 ·exact⟨(Ps.refl p w3).drew,HP3.out.2.1.drew⟩
 refine tkW 0 ?_ (y:=Z4)
 try simp only[ap]
 refine tkW 1 ?_ (y:=Z4)
 try simp only[ap]
 refine tkW 2 ?_ (y:=Z4)
 try simp only[ap]
 refine tkW 3 ?_ (y:=Z4)
 try simp only[ap]
 refine tkW 4 ?_ (y:=Z4)
 try simp only[ap]
 refine tkW 5 ?_ (y:=Z4)
 try simp only[ap]
 refine tkW 6 ?_ (y:=Z4)
 try simp only[ap]
 refine tkW 7 ?_ (y:=Z4)
 try simp only[ap]
 refine tkW 8 ?_ (y:=Z4)
 try simp only[ap]
 refine tkW 9 ?_ (y:=Z4)
 try simp only[ap]
 refine tkW 10 ?_ (y:=Z4)
 try simp only[ap]
 refine tkW 11 ?_ (y:=Z4)
 try simp only[ap]
 refine tkW 12 ?_ (y:=Z4)
 try simp only[ap]
 refine tkW 13 ?_ (y:=Z4)
 try simp only[ap]
 refine tkW 14 ?_ (y:=Z4)
 try simp only[ap]
 refine tkW 15 ?_ (y:=Z4)
 try simp only[ap]
 refine tkW 16 ?_ (y:=Z4)
 try simp only[ap]
 refine tkW 17 ?_ (y:=Z4)
 try simp only[ap]
 refine tkW 18 ?_ (y:=Z4)
 try simp only[ap]
 refine tkW 19 ?_ (y:=Z4)
 try simp only[ap]
 refine tkW 20 ?_ (y:=Z4)
 try simp only[ap]
 refine tkW 21 ?_ (y:=Z4)
 try simp only[ap]
 refine tkW 22 ?_ (y:=Z4)
 try simp only[ap]
 refine tkW 23 ?_ (y:=Z4)
 try simp only[ap]
 refine wpW_turn 0 (k:=24) (oi:= ?oi25) (v:=undef) Z31 ?hi25 Z31 Z31 Z27 Z27 Z27 Z27 ?hy25 ?rest25
 case hi25=>exact Z20
 case hy25=>
  refine Or.inr ⟨Z31,rfl,fun W hSw=>⟨W.setCell ⟨p,3,none⟩ (.int .i64 k.vw),?_,?_⟩⟩
  ·have y:=hSw.2.cell 3 rfl
   have f:=hSw.2.frozen 3
   exact Z117
  ·exact⟨hSw.1.set _ _,hSw.2.set 3 _⟩
 try simp only[ap]
 refine tkW 25 ?_ (y:=Z4)
 try simp only[ap]
 refine tkW 26 ?_ (y:=Z4)
 try simp only[ap]
 refine wpW_turn 1 (k:=27) (oi:= ?oi28) (v:=undef) Z31 ?hi28 Z31 Z31 Z27 Z27 Z27 Z27 ?hy28 ?rest28
 case hi28=>exact Z20
 case hy28=>
  refine Or.inr ⟨Z31,rfl,fun W hSw=>⟨W.setCell ⟨p,4,none⟩ (.int .i64 k.nr),?_,?_⟩⟩
  ·have y:=hSw.2.cell 4 rfl
   have f:=hSw.2.frozen 4
   exact Z117
  ·exact⟨hSw.1.set _ _,hSw.2.set 4 _⟩
 try simp only[ap]
 refine tkW 28 ?_ (y:=Z4)
 try simp only[ap]
 refine tkW 29 ?_ (y:=Z4)
 try simp only[ap]
 refine wpW_turn 2 (k:=30) (oi:= ?oi31) (v:=undef) Z31 ?hi31 Z31 Z31 Z27 Z27 Z27 Z27 ?hy31 ?rest31
 case hi31=>exact Z20
 case hy31=>
  refine Or.inr ⟨Z31,rfl,fun W hSw=>⟨W.setCell ⟨p,5,none⟩ (.int .i64 k.bs),?_,?_⟩⟩
  ·have y:=hSw.2.cell 5 rfl
   have f:=hSw.2.frozen 5
   exact Z117
  ·exact⟨hSw.1.set _ _,hSw.2.set 5 _⟩
 try simp only[ap]
 refine tkW 31 ?_ (y:=Z4)
 try simp only[ap]
 refine tkW 32 ?_ (y:=Z4)
 try simp only[ap]
 refine wpW_turn 3 (k:=33) (oi:= ?oi34) (v:=undef) Z31 ?hi34 Z31 Z31 Z27 Z27 Z27 Z27 ?hy34 ?rest34
 case hi34=>exact Z20
 case hy34=>
  refine Or.inr ⟨Z31,rfl,fun W hSw=>⟨W.setCell ⟨p,7,none⟩ (.int .i64 k.cm),?_,?_⟩⟩
  ·have y:=hSw.2.cell 7 rfl
   have f:=hSw.2.frozen 7
   exact Z117
  ·exact⟨hSw.1.set _ _,hSw.2.set 7 _⟩
 try simp only[ap]
 refine tkW 34 ?_ (y:=Z4)
 try simp only[ap]
 refine tkW 35 ?_ (y:=Z4)
 try simp only[ap]
 refine wpW_turn 4 (k:=36) (oi:= ?oi37) (v:=undef) Z31 ?hi37 Z31 Z31 Z27 Z27 Z27 Z27 ?hy37 ?rest37
 case hi37=>exact Z20
 case hy37=>
  refine Or.inr ⟨Z31,rfl,fun W hSw=>⟨W.setCell ⟨p,6,none⟩ (.int .i64 k.cm),?_,?_⟩⟩
  ·have y:=hSw.2.cell 6 rfl
   have f:=hSw.2.frozen 6
   exact Z117
  ·exact⟨hSw.1.set _ _,hSw.2.set 6 _⟩
 try simp only[ap]
 refine tkW 37 ?_ (y:=Z4)
 try simp only[ap]
 refine tkW 38 ?_ (y:=Z4)
 try simp only[ap]
 refine wpW_turn 5 (k:=39) (oi:= ?oi40) (v:=undef) Z31 ?hi40 Z31 Z31 Z27 Z27 Z27 Z27 ?hy40 ?rest40
 case hi40=>exact Z20
 case hy40=>
  refine Or.inr ⟨Z31,rfl,fun W hSw=>⟨W.setCell ⟨p,9,none⟩ (.int .i64 kl),?_,?_⟩⟩
  ·have y:=hSw.2.cell 9 rfl
   have f:=hSw.2.frozen 9
   exact Z117
  ·exact⟨hSw.1.set _ _,hSw.2.set 9 _⟩
 try simp only[ap]
 refine wpW_done Z27 Z31 ?_ _
 intro w4 hSw
 have HP4:Hid (Ps p w3 w4∧Blk w4 p 94 [.int .i64 (id:Int),.int .i64 (n:Int),.int .i64 0,.int .i64 k.vw,.int .i64 k.nr,.int .i64 k.bs,.int .i64 k.cm,.int .i64 k.cm,.int .i64 0,.int .i64 kl,lv,.int .i64 0,hv,xv,sv',uv]):=Lib.hid ⟨hSw.1,hSw.2⟩
 have HX4:Hid (Lx w c c2∧Fr (Fi i) c w w4∧RP i c2 w4 (newR id n) lv hv xv sv' uv∧c2 p=10+10*i):=Lib.hid ⟨HX3.out.1,HX3.out.2.1.trans HX3.out.1 (HP4.out.1.fr (by rw[HP3.out.1];exact Fi_0 i)),HP3.out.2.2.1.ps HP3.out.1 HP4.out.1,HP3.out.1⟩
 have HM4:Hid (Blk w4 b6 47 [.int .i64 k.vw,.int .i64 k.nr,.int .i64 k.bs,.int .i64 k.cm,.slice ka k.ops.length kc]):=Lib.hid ((HP4.out.1.heap b6 HP3.out.2.2.2).trans HM3.out.1)
 have HK4:Hid (SlR (opE li) c2 lo w4 (.slice ka k.ops.length kc) k.ops):=Lib.hid (HK3.out.fr (opE_ok li) (Lx.refl _ _) (HP4.out.1.fr (F:=Fi i) (by rw[HP3.out.1];exact Fi_0 i)) fun q hq=>by
  rcases hq with hq|hq
  ·have:q=li:=hq
   rw[this];exact HH.out.2.1.1.2
  ·rw[hq];exact HH.out.2.1.1.1)
 clear hSw HM3 HK3 HP3
 have z4:=HM4.out.cell 4 rfl
 have HOW:=Lib.hid (own_any k.ops (.slice ka k.ops.length kc) w4 HK4.out (by have:=HH.out.2.2.1;omega))
 go_wp2_with fail
 refine HOW.out.mono ?_
 rintro e w5 ⟨v5,rfl,hnew,hb5⟩
 obtain⟨a5,q5,e5⟩:=hnew.slice
 subst e5
 have hrw:=hnew.row c2 (11+10*i) 1
 obtain⟨c5,hc5⟩: ∃c5,c5=c2.new w4.heap.size (.slice a5 k.ops.length q5) (11+10*i) 1:=⟨_,rfl⟩
 rw[←hc5] at hrw
 have hB5:=HP4.out.2.below hb5 HP4.out.2.lt
 have y10:=hB5.cell 10 rfl
 have f10:=hB5.frozen 10
 obtain⟨w6,hw6⟩: ∃w6,w6=w5.setCell ⟨p,10,none⟩ (.slice a5 k.ops.length q5):=⟨_,rfl⟩
 have hps6:Ps p w5 w6:=by rw[hw6];exact(Ps.refl p w5).set _ _
 have hlp5:c5 p=10+10*i:=(hrw.1 p HP4.out.2.lt).trans HX4.out.2.2.2
 obtain⟨N0,hN0⟩: ∃N0,N0=k.ops.length:=⟨_,rfl⟩
 have hvwc:((k.vw.toNat:Nat):Int)=k.vw:=by have:=HKO.out;unfold kok at this;omega
 have hnrc:((k.nr.toNat:Nat):Int)=k.nr:=by have:=HKO.out;unfold kok at this;omega
 have hbsc:((k.bs.toNat:Nat):Int)=k.bs:=by have:=HKO.out;unfold kok at this;omega
 have hcmc:((k.cm.toNat:Nat):Int)=k.cm:=by have:=HKO.out;unfold kok at this;omega
 have hklc:((k.bs.toNat+k.ops.length:Nat):Int)=kl:=by have:=HKL2.out;omega
 have HV6:Hid (RV i c5 w6 p (r0z id n k)):=Lib.hid (by
  have h1:=(HX4.out.2.2.1.below hrw.1 hb5).ps hlp5 hps6
  refine⟨hlp5,.slice a5 k.ops.length q5,hv,xv,sv',uv,?_,⟨hrw.2.keep (opE_ok 1) (Lx.refl _ _) fun q hq hl=>hps6.heap q fun e=> ?_,h1.hv,?_,h1.sv,h1.ou⟩⟩
  ·have h2:=hB5.set 10 (.slice a5 k.ops.length q5)
   rw[←hw6] at h2
   unfold rpC r0z
   dsimp only
   rw[hvwc,hnrc,hbsc,hcmc,hklc]
   exact h2
  ·rw[e,hlp5] at hl
   rcases hl with hl|hl
   ·have:10+10*i=1:=hl
    omega
   ·omega
  ·rcases h1.of with⟨g1,g2,g3⟩|g1
   ·exact .inl ⟨g1,by show(0:Nat)≠1;omega,fun _=>rfl⟩
   ·exact .inr g1)
 have HX6:Hid (Lx w c c5∧Fr (Fi i) c w w6):=Lib.hid ⟨HX4.out.1.trans hrw.1 HX4.out.2.1.size,(HX4.out.2.1.trans HX4.out.1 (Fr.of_below hb5)).trans (HX4.out.1.trans hrw.1 HX4.out.2.1.size) (hps6.fr (by rw[hlp5];exact Fi_0 i))⟩
 have HS6:Hid (SlR (szE l2) c5 lo2 w6 (.slice sa l.length sc) l):=Lib.hid (HSV.out.fr (szE_ok l2) HX6.out.1 HX6.out.2 fun q hq=>by
  rcases hq with hq|hq
  ·have:q=l2:=hq
   rw[this];exact HH.out.2.1.2.2
  ·rw[hq];exact HH.out.2.1.2.1)
 have HLN:=Lib.hid (LN.r0 (id:=id) (n:=n) HKO.out)
 have HLZ:Hid (loadZ id n k l=match ldLz (r0z id n k) l with|none=>none|some r1=>some (ldE r1)):=Lib.hid (by
  unfold loadZ ldKz
  rw[if_pos HKO.out]
  dsimp only
  cases ldLz (r0z id n k) l<;>rfl)
 clear hnew hrw hc5 hb5 hB5 hlp5 hps6 HOW z4 hN0 hvwc hnrc hbsc hcmc hklc
 obtain⟨r0,hr0⟩: ∃r0,r0=r0z id n k:=⟨_,rfl⟩
 rw[←hr0] at HV6 HLN HLZ
 clear hr0
 go_upto_region 9 with fail
 rw[←hw6]
 clear hw6 y10 f10
 go_wp2_with fail
 go_loopw [118] (fun q wr=> ∃j:Nat,q= .int .i64 (j:Int)∧j≤l.length∧ ∃r c',ldLz r0 l=ldLz r (l.drop j)∧LN id n (k.ops.length+totS (l.take j)) r∧Lx w c c'∧Fr (Fi i) c w wr∧RV i c' wr p r) (fun q _=>l.length-(intOf q).toNat)
 case atStart=>exact⟨0,rfl,Nat.zero_le _,r0,c5,rfl,HLN.out.up (Nat.le_add_right _ _),HX6.out.1,HX6.out.2,HV6.out⟩
 case round=>
  obtain⟨j,rfl,hj,r,c',hld,hln,hx,hf,hv⟩:=hrel
  have HRR:=Lib.hid (And.intro hld (And.intro hln (And.intro hx (And.intro hf hv))))
  clear hld hln hx hf hv
  by_cases hjn:j<l.length
  case pos=>
   have t1:(j:Int)<(l.length:Int):=by omega
   obtain⟨x,hx⟩: ∃x,l[j]?=some x:=⟨_,List.getElem?_eq_getElem hjn⟩
   have hsr:SlR (szE l2) c' lo2 wr (.slice sa l.length sc) l:=HSV.out.fr (szE_ok l2) HRR.out.2.2.1 HRR.out.2.2.2.1 fun q hq=>by
    rcases hq with hq|hq
    ·have:q=l2:=hq
     rw[this];exact HH.out.2.1.2.2
    ·rw[hq];exact HH.out.2.1.2.1
   obtain⟨bs,ofs,cps,ux,hsv,hin,hcel⟩:=hsr.get (szE_ok l2) hx
   have hin':SzI l2 c' wr ux x:=hin
   obtain⟨xa,xc,ex⟩:=hin'.s.slice
   subst ex
   injection hsv with e1 _ e3
   subst e1
   subst e3
   have hz: ∀(q:Nat) (y:Value),([.bool x.lg,.int .i64 x.vw,.int .i64 x.ao,.slice xa x.ops.length xc,.int .i64 x.sb]:List Value)[q]?=some y→wr.cell? ⟨bs,ofs+j*5+q,none⟩=some y:=fun q y hy=>hcel q y hy
   have z0:=hz 0 _ rfl
   have z1:=hz 1 _ rfl
   have z2:=hz 2 _ rfl
   have z3:=hz 3 _ rfl
   have z4:=hz 4 _ rfl
   rw[Nat.add_zero] at z0
   have HXI:=Lib.hid (And.intro hin' hx)
   have HLD:Hid (ldLz r0 l=(match ldSz r x with|none=>none|some r1=>ldLz r1 (l.drop (j+1)))):=Lib.hid (by rw[HRR.out.1,ldLz_drop hx])
   clear hx hsr hin hin' hcel hz
   go_upto_region 12 with fail
   obtain⟨wx,hwx⟩: ∃wx,wx=wr.alloc (.cells #[.bool x.lg,.int .i64 x.vw,.int .i64 x.ao,.slice xa x.ops.length xc,.int .i64 x.sb] 51):=⟨_,rfl⟩
   obtain⟨b14,hb14⟩: ∃b14,b14=wr.heap.size:=⟨_,rfl⟩
   have hbx:Below wr.heap.size wr wx:=by rw[hwx];exact(Below.refl _ _).alloc (Nat.le_refl _) _
   have HB14:Hid (Blk wx b14 51 [.bool x.lg,.int .i64 x.vw,.int .i64 x.ao,.slice xa x.ops.length xc,.int .i64 x.sb]):=Lib.hid (by rw[hwx,hb14];exact Blk.new wr 51 _)
   obtain⟨cx,hcx⟩: ∃cx,cx=c'.ext wr.heap.size:=⟨_,rfl⟩
   have hxx:Lx wr c' cx:=by rw[hcx];exact c'.ext_lx wr
   have HXx:Hid (Lx w c cx∧Fr (Fi i) c w wx∧RV i cx wx p r∧cx b14=1):=Lib.hid ⟨HRR.out.2.2.1.trans hxx HRR.out.2.2.2.1.size,HRR.out.2.2.2.1.trans HRR.out.2.2.1 (Fr.of_below hbx),HRR.out.2.2.2.2.below hxx hbx,by rw[hcx,hb14];exact c'.ext_new (Nat.le_refl _)⟩
   have HOx:Hid (SlR (opE l2) cx l2 wx (.slice xa x.ops.length xc) x.ops):=Lib.hid ((HXI.out.1.s.lx (opE_ok l2) hxx).below (opE_ok l2) hbx)
   rw[←hwx,←hb14]
   clear hwx hb14 hbx hcx hxx z0 z1 z2 z3 z4 t1
   have z0:=HB14.out.cell 0 rfl
   have z1:=HB14.out.cell 1 rfl
   have z2:=HB14.out.cell 2 rfl
   have z3:=HB14.out.cell 3 rfl
   have z4:=HB14.out.cell 4 rfl
   obtain⟨hlpx,lvx,hvx,xvx,svx,uvx,hbpx,hrpx⟩:=HXx.out.2.2.1
   have HPx:=Lib.hid (And.intro hlpx (And.intro hbpx hrpx))
   have y3:=hbpx.cell 3 rfl
   clear hlpx hbpx hrpx
   by_cases h0:x.vw<(r.vw:Int)
   ·exact Z47
   by_cases h1:1099511627776<x.vw
   ·exact Z47
   cases hfi:x.ops.all mayO
   ·have HD:Hid (loadZ id n k l=none):=Lib.hid (by
     rw[HLZ.out,HLD.out]
     unfold ldSz
     rw[if_neg (by rintro⟨q1,q2,q3⟩;rw[hfi] at q3;cases q3)])
    refine wp_region_U (S:=(fun W=>W.cell? ⟨b14,1,none⟩=some (.int .i64 x.vw)∧W.cell? ⟨b14,3,none⟩=some (.slice xa x.ops.length xc)∧W.cell? ⟨p,3,none⟩=some (.int .i64 (r.vw:Int))∧Below wx.heap.size wx W)) Z27 ?_ ?_
    ·exact⟨z1,z3,y3,(Below.refl _ _).drew⟩
    refine tkU 0 ?_ (y:=Z8)
    try simp only[ap]
    refine tkU 1 ?_ (y:=Z8)
    try simp only[ap]
    refine tkU 2 ?_ (y:=Z8)
    try simp only[ap]
    refine tkU 3 ?_ (y:=Z8)
    try simp only[ap]
    refine tkU 4 ?_ (y:=Z8)
    try simp only[ap]
    refine tkU 5 ?_ (y:=Z8)
    try simp only[ap]
    refine tkU 6 ?_ (y:=Z8)
    try simp only[ap]
    refine tkU 7 ?_ (y:=Z8)
    try simp only[ap]
    refine tkU 8 ?_ (y:=Z8)
    try simp only[ap]
    refine tkU 9 ?_ (y:=Z8)
    try simp only[ap]
    refine tkU 10 ?_ (y:=Z8)
    try simp only[ap]
    refine tkU 11 ?_ (y:=Z8)
    try simp only[ap]
    refine tkU 12 ?_ (y:=Z8)
    try simp only[ap]
    refine tkU 13 ?_ (y:=Z8)
    try simp only[ap]
    refine tkU 14 ?_ (y:=Z8)
    try simp only[ap]
    refine wpU_take (i:=15) (oi:= ?oi56) (v:= .bool false) ?hi56 Z27 Z27 Z27 ?hy56 ?rest56
    case hi56=>exact Z20
    case hy56=>
     exact Z221
    try simp only[ap]
    refine tkU 16 ?_ (y:=Z8)
    try simp only[ap]
    refine tkU 17 ?_ (y:=Z8)
    try simp only[ap]
    refine wpU_done Z27 ?_ _
    intro wy hSw
    have HBY:=Lib.hid hSw.2.2.2
    clear hSw hfi
    go_wp2_with fail
    all_goals first|(go_ret2;show LdR i c w (loadZ id n k l) _ _;rw[HD.out];exact⟨rfl,HXx.out.2.1.trans HXx.out.1 (Fr.of_below HBY.out),_,HXx.out.1⟩)|(exfalso;omega)
   have HSO:Hid (sok r x):=Lib.hid ⟨Z11,Z11,hfi⟩
   refine wp_region_U (S:=(fun W=>W.cell? ⟨b14,1,none⟩=some (.int .i64 x.vw)∧W.cell? ⟨b14,3,none⟩=some (.slice xa x.ops.length xc)∧W.cell? ⟨p,3,none⟩=some (.int .i64 (r.vw:Int))∧Below wx.heap.size wx W)) Z27 ?_ ?_
   ·exact⟨z1,z3,y3,(Below.refl _ _).drew⟩
   refine tkU 0 ?_ (y:=Z8)
   try simp only[ap]
   refine tkU 1 ?_ (y:=Z8)
   try simp only[ap]
   refine tkU 2 ?_ (y:=Z8)
   try simp only[ap]
   refine tkU 3 ?_ (y:=Z8)
   try simp only[ap]
   refine tkU 4 ?_ (y:=Z8)
   try simp only[ap]
   refine tkU 5 ?_ (y:=Z8)
   try simp only[ap]
   refine tkU 6 ?_ (y:=Z8)
   try simp only[ap]
   refine tkU 7 ?_ (y:=Z8)
   try simp only[ap]
   refine tkU 8 ?_ (y:=Z8)
   try simp only[ap]
   refine tkU 9 ?_ (y:=Z8)
   try simp only[ap]
   refine tkU 10 ?_ (y:=Z8)
   try simp only[ap]
   refine tkU 11 ?_ (y:=Z8)
   try simp only[ap]
   refine tkU 12 ?_ (y:=Z8)
   try simp only[ap]
   refine tkU 13 ?_ (y:=Z8)
   try simp only[ap]
   refine tkU 14 ?_ (y:=Z8)
   try simp only[ap]
   refine wpU_take (i:=15) (oi:= ?oi74) (v:= .bool true) ?hi74 Z27 Z27 Z27 ?hy74 ?rest74
   case hi74=>exact Z20
   case hy74=>
    exact Z221
   try simp only[ap]
   refine tkU 16 ?_ (y:=Z8)
   try simp only[ap]
   refine tkU 17 ?_ (y:=Z8)
   try simp only[ap]
   refine wpU_done Z27 ?_ _
   intro wy hSw
   have HXy:Hid (Lx w c cx∧Fr (Fi i) c w wy∧RV i cx wy p r):=Lib.hid ⟨HXx.out.1,HXx.out.2.1.trans HXx.out.1 (Fr.of_below hSw.2.2.2),HXx.out.2.2.1.below (Lx.refl _ _) hSw.2.2.2⟩
   have HBy:Hid (Blk wy b14 51 [.bool x.lg,.int .i64 x.vw,.int .i64 x.ao,.slice xa x.ops.length xc,.int .i64 x.sb]∧cx b14=1):=Lib.hid ⟨HB14.out.below hSw.2.2.2 HB14.out.lt,HXx.out.2.2.2⟩
   have HOy:Hid (SlR (opE l2) cx l2 wy (.slice xa x.ops.length xc) x.ops):=Lib.hid (HOx.out.below (opE_ok l2) hSw.2.2.2)
   clear hSw z0 z1 z2 z3 z4 y3 HB14 HOx HPx hfi h0 h1
   have z0:=HBy.out.1.cell 0 rfl
   have z1:=HBy.out.1.cell 1 rfl
   have z2:=HBy.out.1.cell 2 rfl
   have z3:=HBy.out.1.cell 3 rfl
   have z4:=HBy.out.1.cell 4 rfl
   obtain⟨hlpy,lvy,hvy,xvy,svy,uvy,hbpy,hrpy⟩:=HXy.out.2.2
   have HPy:=Lib.hid (And.intro hlpy (And.intro hbpy hrpy))
   clear hlpy hbpy hrpy
   have HN3:Hid (r.log.length≤900000∧k.ops.length+totS (l.take j)+x.ops.length=k.ops.length+totS (l.take (j+1))∧k.ops.length+totS (l.take (j+1))≤900000):=Lib.hid (by
    have h2:=totS_take l j x HXI.out.2
    have h3:=totS_le l (j+1)
    have h4:=HRR.out.2.1.lo
    have h5:=HH.out.2.2.1
    omega)
   cases hlg:x.lg
   case false=>
    as_aux_lemma=>
    have hvwc:((x.vw.toNat:Nat):Int)=x.vw:=by have:=HSO.out.1;omega
    rw[hlg] at z0
    by_cases h2:x.ao=0
    case neg=>
     skip
     have HD:Hid (loadZ id n k l=none):=Lib.hid (by
      rw[HLZ.out,HLD.out]
      unfold ldSz
      rw[if_pos HSO.out,if_pos hlg,if_neg (by rintro⟨q1,q2,q3⟩;exact h2 q1)])
     exact Z54
    by_cases h3:x.sb=0
    case neg=>
     skip
     have HD:Hid (loadZ id n k l=none):=Lib.hid (by
      rw[HLZ.out,HLD.out]
      unfold ldSz
      rw[if_pos HSO.out,if_pos hlg,if_neg (by rintro⟨q1,q2,q3⟩;exact h3 q2)])
     exact Z54
    by_cases h4:(0:Int)<(x.ops.length:Int)
    case pos=>
     skip
     have HD:Hid (loadZ id n k l=none):=Lib.hid (by
      rw[HLZ.out,HLD.out]
      unfold ldSz
      rw[if_pos HSO.out,if_pos hlg,if_neg (by rintro⟨q1,q2,q3⟩;rw[q3] at h4;simp at h4)])
     exact Z54
    have HS0:Hid (sok0 x):=Lib.hid ⟨h2,h3,List.eq_nil_of_length_eq_zero Z11⟩
    have HLG:=Lib.hid hlg
    have y3:=HPy.out.2.1.cell 3 rfl
    have f3:=HPy.out.2.1.frozen 3
    have HN:Hid (∃r' c',ldLz r0 l=ldLz r' (l.drop (j+1))∧LN id n (k.ops.length+totS (l.take (j+1))) r'∧Lx w c c'∧Fr (Fi i) c w (wy.setCell ⟨p,3,none⟩ (.int .i64 x.vw))∧RV i c' (wy.setCell ⟨p,3,none⟩ (.int .i64 x.vw)) p r'):=Lib.hid (by
     have hps:Ps p wy (wy.setCell ⟨p,3,none⟩ (.int .i64 x.vw)):=(Ps.refl p wy).set _ _
     have h6:=HRR.out.2.1
     refine⟨{r with vw:=x.vw.toNat},cx,?_,⟨h6.id,h6.nn,h6.ls,h6.bs,by have h7:=h6.lo;have h8:=HN3.out.2.1;show r.log.length≤_;omega,by show x.vw.toNat≤_;have:=HSO.out.2.1;omega,h6.cm,h6.sb,h6.of⟩,HXy.out.1,HXy.out.2.1.trans HXy.out.1 (hps.fr (by rw[HPy.out.1];exact Fi_0 i)),HPy.out.1,lvy,hvy,xvy,svy,uvy,?_,?_⟩
     ·rw[HLD.out]
      unfold ldSz
      rw[if_pos HSO.out,if_pos HLG.out,if_pos HS0.out]
     ·have h7:=HPy.out.2.1.set 3 (.int .i64 x.vw)
      unfold rpC
      dsimp only
      rw[hvwc]
      exact h7
     ·have h7:=HPy.out.2.2.ps HPy.out.1 hps
      exact⟨h7.lg,h7.hv,h7.of,h7.sv,h7.ou⟩)
    have hjb:j<l.length:=hjn
    have hlb:l.length≤100000:=HH.out.2.2.2
    clear hlg hvwc
    exact Z209
   case true=>
    as_aux_lemma=>
    rw[hlg] at z0
    have HLG:Hid (¬x.lg=false):=Lib.hid (by rw[hlg];simp)
    clear hlg
    have y5:=HPy.out.2.1.cell 5 rfl
    have y9:=HPy.out.2.1.cell 9 rfl
    have y7:=HPy.out.2.1.cell 7 rfl
    have y8:=HPy.out.2.1.cell 8 rfl
    obtain⟨mx,hmx0⟩: ∃mx,mx=max r.cm r.sb:=⟨_,rfl⟩
    have hmx:max (r.cm:Int) (r.sb:Int)=(mx:Int):=by omega
    obtain⟨xl,hxl⟩: ∃xl,IntKind.i64.wrap (x.ao+(x.ops.length:Int))=xl:=⟨_,rfl⟩
    have HXL:Hid ((r.bs:Int)≤x.ao→x.ao≤r.ls→xl=x.ao+(x.ops.length:Int)):=Lib.hid fun q1 q2=>by
     rw[←hxl]
     have q3:=HXI.out.1.n
     have q4:=HRR.out.2.1.ls
     have q5:=HRR.out.2.1.bs
     have q6:=HN3.out.1
     exact IntWalk.i64_in _ Z11
    have HMX:=Lib.hid hmx0
    clear hmx0
    go_upto_region 18 with fail
    by_cases h2:x.ao<(r.bs:Int)
    ·exact Z32
    by_cases h3:(r.ls:Int)<x.ao
    ·exact Z32
    by_cases h4:xl<(mx:Int)
    ·skip
     have HD:Hid (loadZ id n k l=none):=Lib.hid (by
      rw[HLZ.out,HLD.out]
      unfold ldSz
      rw[if_pos HSO.out,if_neg HLG.out,if_neg (by rintro⟨q1,q2,q3,q4,q5⟩;have q6:=HXL.out q1 q2;rw[←HMX.out] at q3;omega)])
     exact Z200
    by_cases h5:x.sb<0
    ·exact Z32
    by_cases h6:1099511627776<x.sb
    ·exact Z32
    have HS1:Hid (sok1 r x):=Lib.hid ⟨Z11,Z11,by have q6:=HXL.out Z11 Z11;rw[←HMX.out];omega,Z11,Z11⟩
    go_quiet (fail)
    clear z0 z1 z2 z3 z4 y5 y9 y7 y8 hmx hxl h2 h3 h4 h5 h6
    have HXz:Hid (Lx w c cx∧Fr (Fi i) c w (wy.drewN nq)):=Lib.hid ⟨HXy.out.1,HXy.out.2.1.trans HXy.out.1 (Fr.of_below (below_drewN (Below.refl _ _) nq))⟩
    have HBz:Hid (Blk (wy.drewN nq) b14 51 [.bool x.lg,.int .i64 x.vw,.int .i64 x.ao,.slice xa x.ops.length xc,.int .i64 x.sb]):=Lib.hid (HBy.out.1.drewN nq)
    have HOz:Hid (SlR (opE l2) cx l2 (wy.drewN nq) (.slice xa x.ops.length xc) x.ops):=Lib.hid (HOy.out.keep (opE_ok l2) (Lx.refl _ _) fun _ _ _=>rfl)
    have HPz:Hid (cx p=10+10*i∧Blk (wy.drewN nq) p 94 (rpC r lvy hvy xvy svy uvy)∧RP i cx (wy.drewN nq) r lvy hvy xvy svy uvy):=Lib.hid ⟨HPy.out.1,HPy.out.2.1.drewN nq,HPy.out.2.2.keep (Lx.refl _ _) fun _ _ _=>rfl⟩
    generalize wy.drewN nq=wz at*
    have hvwc:((x.vw.toNat:Nat):Int)=x.vw:=by have:=HSO.out.1;omega
    have haoc:((x.ao.toNat:Nat):Int)=x.ao:=by have:=HS1.out.1;omega
    have hsbc:((x.sb.toNat:Nat):Int)=x.sb:=by have:=HS1.out.2.2.2.1;omega
    have HCV:=Lib.hid (And.intro hvwc (And.intro haoc hsbc))
    clear hvwc haoc hsbc
    have z1:=HBz.out.cell 1 rfl
    have y3:=HPz.out.2.1.cell 3 rfl
    have y4:=HPz.out.2.1.cell 4 rfl
    have f3:=HPz.out.2.1.frozen 3
    have f4:=HPz.out.2.1.frozen 4
    have hne:b14≠p:=fun e=>by have h1:=HBy.out.2;rw[e,HPz.out.1] at h1;omega
    go_upto_region 20 with fail
    clear y3 y4 f3 f4 z1
    refine wp_region_W [8,11] (fun nn W=>Ps p wz W∧Blk W p 94 (match nn with|0=>(rpC r lvy hvy xvy svy uvy)|1=>((rpC r lvy hvy xvy svy uvy).set 3 (.int .i64 x.vw))|_=>(((rpC r lvy hvy xvy svy uvy).set 3 (.int .i64 x.vw)).set 4 (.int .i64 x.vw)))) Z27 Z31 ?_ ?_
    ·exact⟨(Ps.refl p wz).drew,HPz.out.2.1.drew⟩
    refine tkW 0 ?_ (y:=Z25)
    try simp only[ap]
    refine tkW 1 ?_ (y:=Z25)
    try simp only[ap]
    refine tkW 2 ?_ (y:=Z25)
    try simp only[ap]
    refine tkW 3 ?_ (y:=Z25)
    try simp only[ap]
    refine tkW 4 ?_ (y:=Z25)
    try simp only[ap]
    refine tkW 5 ?_ (y:=Z25)
    try simp only[ap]
    refine tkW 6 ?_ (y:=Z25)
    try simp only[ap]
    refine tkW 7 ?_ (y:=Z25)
    try simp only[ap]
    refine wpW_turn 0 (k:=8) (oi:= ?oi85) (v:=undef) Z31 ?hi85 Z31 Z31 Z27 Z27 Z27 Z27 ?hy85 ?rest85
    case hi85=>exact Z20
    case hy85=>
     refine Or.inr ⟨Z31,rfl,fun W hSw=>⟨W.setCell ⟨p,3,none⟩ (.int .i64 x.vw),?_,?_⟩⟩
     ·have y:=hSw.2.cell 3 rfl
      have f:=hSw.2.frozen 3
      exact Z117
     ·exact⟨hSw.1.set _ _,hSw.2.set 3 _⟩
    try simp only[ap]
    refine tkW 9 ?_ (y:=Z25)
    try simp only[ap]
    refine tkW 10 ?_ (y:=Z25)
    try simp only[ap]
    refine wpW_turn 1 (k:=11) (oi:= ?oi88) (v:=undef) Z31 ?hi88 Z31 Z31 Z27 Z27 Z27 Z27 ?hy88 ?rest88
    case hi88=>exact Z20
    case hy88=>
     refine Or.inr ⟨Z31,rfl,fun W hSw=>⟨W.setCell ⟨p,4,none⟩ (.int .i64 x.vw),?_,?_⟩⟩
     ·have y:=hSw.2.cell 4 rfl
      have f:=hSw.2.frozen 4
      exact Z117
     ·exact⟨hSw.1.set _ _,hSw.2.set 4 _⟩
    try simp only[ap]
    refine wpW_done Z27 Z31 ?_ _
    intro wa hSw
    obtain⟨ra,hra⟩: ∃ra,ra= {r with vw:=x.vw.toNat,nr:=x.vw.toNat}:=⟨_,rfl⟩
    have HVA:Hid (Lx w c cx∧Fr (Fi i) c w wa∧RV i cx wa p ra):=Lib.hid (by
     have h2:Blk wa p 94 (((rpC r lvy hvy xvy svy uvy).set 3 (.int .i64 x.vw)).set 4 (.int .i64 x.vw)):=hSw.2
     have h7:=HPz.out.2.2.ps HPz.out.1 hSw.1
     refine⟨HXz.out.1,HXz.out.2.trans HXz.out.1 (hSw.1.fr (by rw[HPz.out.1];exact Fi_0 i)),HPz.out.1,lvy,hvy,xvy,svy,uvy,?_,?_⟩
     ·rw[hra]
      unfold rpC
      dsimp only
      rw[HCV.out.1]
      exact h2
     ·rw[hra]
      exact⟨h7.lg,h7.hv,h7.of,h7.sv,h7.ou⟩)
    have HBa:Hid (Blk wa b14 51 [.bool x.lg,.int .i64 x.vw,.int .i64 x.ao,.slice xa x.ops.length xc,.int .i64 x.sb]):=Lib.hid ((hSw.1.heap b14 hne).trans HBz.out)
    have HOa:Hid (SlR (opE l2) cx l2 wa (.slice xa x.ops.length xc) x.ops):=Lib.hid (HOz.out.fr (opE_ok l2) (Lx.refl _ _) (hSw.1.fr (F:=Fi i) (by rw[HPz.out.1];exact Fi_0 i)) fun q hq=>by
     rcases hq with hq|hq
     ·have:q=l2:=hq
      rw[this];exact HH.out.2.1.2.2
     ·rw[hq];exact HH.out.2.1.2.2)
    have HRA:=Lib.hid hra
    have HLY:=lay_any (i:=i) (lo:=l2) (li:=l2) (c:=cx) (r:=ra) x.ao.toNat x.ops (.slice xa x.ops.length xc) p wa HVA.out.2.2 HOa.out (fun e=>HH.out.2.1.2.2 (by rw[e];exact Fi_0 i)) (by
     rw[hra]
     show x.ao.toNat≤r.ls
     have:=HS1.out.2.1;omega) (by rw[hra];exact HRR.out.2.1.ls) (by
     rw[hra]
     have h3:TM=1099511627776:=rfl
     have h4:=HRR.out.2.1.bs
     have h5:=HN3.out.1
     have h6:=HRR.out.2.1.ls
     have h7:=HXI.out.1.n
     have h8:=HS1.out.2.1
     refine⟨by show r.log.length≤_;omega,by show r.bs≤_;omega,Z11,Z11⟩)
    rw[HCV.out.2.1] at HLY
    have HLZ2:=Lib.hid HLY
    clear hSw hra HLY hne
    have z2:=HBa.out.cell 2 rfl
    have z3:=HBa.out.cell 3 rfl
    go_upto_region 21 with fail
    go_wp2_with fail
    refine HLZ2.out.mono ?_
    rintro e wb ⟨rfl,cb,hxb,hfb,hvb⟩
    have hnb:b14<wa.heap.size:=HBa.out.lt
    have HXb:Hid (Lx w c cb∧Fr (Fi i) c w wb):=Lib.hid ⟨HVA.out.1.trans hxb HVA.out.2.1.size,HVA.out.2.1.trans HVA.out.1 hfb⟩
    have HBb:Hid (Blk wb b14 51 [.bool x.lg,.int .i64 x.vw,.int .i64 x.ao,.slice xa x.ops.length xc,.int .i64 x.sb]∧cb b14=1):=Lib.hid ⟨(hfb.block b14 hnb (by rw[HBy.out.2];unfold Fi;omega)).trans HBa.out,(hxb b14 hnb).trans HBy.out.2⟩
    obtain⟨rb,hrb⟩: ∃rb,rb=lay ra x.ao.toNat x.ops:=⟨_,rfl⟩
    rw[←hrb] at hvb
    obtain⟨hlpb,lvb,hvb',xvb,svb,uvb,hbpb,hrpb⟩:=hvb
    have HPb:=Lib.hid (And.intro hlpb (And.intro hbpb hrpb))
    have HRB:=Lib.hid hrb
    have y8:=hbpb.cell 8 rfl
    have f8:=hbpb.frozen 8
    have y9:=hbpb.cell 9 rfl
    have w4':=HBb.out.1.cell 4 rfl
    obtain⟨k1,hk1⟩: ∃k1,k1=min x.sb.toNat rb.ls:=⟨_,rfl⟩
    obtain⟨k2,hk2⟩: ∃k2,k2=max rb.sb k1:=⟨_,rfl⟩
    have hmn:min x.sb (rb.ls:Int)=(k1:Int):=by have:=HCV.out.2.2;omega
    have hmx2:max (rb.sb:Int) (k1:Int)=(k2:Int):=by omega
    have HKK:Hid (max rb.sb (min x.sb.toNat rb.ls)=k2):=Lib.hid (by rw[←hk1,←hk2])
    have hjb:j<l.length:=hjn
    have hlb:l.length≤100000:=HH.out.2.2.2
    clear z2 z3 hxb hfb hlpb hbpb hrpb hnb hrb hk1 hk2
    go_upto_region 22 with fail
    go_region
    have HN:Hid (∃r' c',ldLz r0 l=ldLz r' (l.drop (j+1))∧LN id n (k.ops.length+totS (l.take (j+1))) r'∧Lx w c c'∧Fr (Fi i) c w (wb.setCell ⟨p,8,none⟩ (.int .i64 (k2:Int))).drew∧RV i c' (wb.setCell ⟨p,8,none⟩ (.int .i64 (k2:Int))).drew p r'):=Lib.hid (by
     have hps:Ps p wb (wb.setCell ⟨p,8,none⟩ (.int .i64 (k2:Int))).drew:=((Ps.refl p wb).set _ _).drew
     have h6:=HRR.out.2.1.lay2 HSO.out HS1.out
     have he:lay2 r x= {rb with sb:=k2}:=by
      rw[←HKK.out,HRB.out,HRA.out]
      rfl
     refine⟨lay2 r x,cb,?_,by rw[←HN3.out.2.1];exact h6,HXb.out.1,HXb.out.2.trans HXb.out.1 (hps.fr (by rw[HPb.out.1];exact Fi_0 i)),HPb.out.1,lvb,hvb',xvb,svb,uvb,?_,?_⟩
     ·rw[HLD.out]
      unfold ldSz
      rw[if_pos HSO.out,if_neg HLG.out,if_pos HS1.out]
     ·rw[he]
      exact(HPb.out.2.1.set 8 _).drew
     ·rw[he]
      have h7:=HPb.out.2.2.ps HPb.out.1 hps
      exact⟨h7.lg,h7.hv,h7.of,h7.sv,h7.ou⟩)
    clear y8 f8 y9 w4' hmn hmx2
    exact Z209
  case neg=>
   as_aux_lemma=>
   have t1: ¬(j:Int)<(l.length:Int):=by omega
   have HLE:Hid (loadZ id n k l=some (ldE r)):=Lib.hid (by
    rw[HLZ.out,HRR.out.1,List.drop_of_length_le Z11]
    rfl)
   have HXR:Hid (Lx w c c'∧Fr (Fi i) c w wr):=Lib.hid ⟨HRR.out.2.2.1,HRR.out.2.2.2.1⟩
   have HLNR:=Lib.hid HRR.out.2.1
   obtain⟨hlpr,lvr,hvr,xvr,svr,uvr,hbpr,hrpr⟩:=HRR.out.2.2.2.2
   have HPr:=Lib.hid (And.intro hlpr (And.intro hbpr hrpr))
   have y7:=hbpr.cell 7 rfl
   have f7:=hbpr.frozen 7
   have y8:=hbpr.cell 8 rfl
   clear hlpr hbpr hrpr HRR
   obtain⟨k1,hk1⟩: ∃k1,k1=max r.cm r.sb:=⟨_,rfl⟩
   have hmx:max (r.cm:Int) (r.sb:Int)=(k1:Int):=by omega
   have HK1:=Lib.hid hk1
   clear hk1
   go_upto_region 24 with fail
   clear t1
   go_region
   obtain⟨wd,hwd⟩: ∃wd,wd=(wr.setCell ⟨p,7,none⟩ (.int .i64 (k1:Int))).drew:=⟨_,rfl⟩
   have HPS:Hid (Ps p wr wd):=Lib.hid (by rw[hwd];exact((Ps.refl p wr).set _ _).drew)
   have HBD:Hid (Blk wd p 94 (rpC {r with cm:=k1} lvr hvr xvr svr uvr)):=Lib.hid (by rw[hwd];exact(HPr.out.2.1.set 7 _).drew)
   rw[←hwd]
   clear hwd y7 f7 y8 hmx
   have y2:=HBD.out.cell 2 rfl
   have f2:=HBD.out.frozen 2
   go_upto_region 26 with fail
   obtain⟨we,hwe⟩: ∃we,we=wd.setCell ⟨p,2,none⟩ (.int .i64 2):=⟨_,rfl⟩
   have HPS2:Hid (Ps p wr we):=Lib.hid (by
    have h1:Ps p wd we:=by rw[hwe];exact(Ps.refl p wd).set _ _
    exact⟨h1.os.trans HPS.out.os,h1.tape.trans HPS.out.tape,h1.output.trans HPS.out.output,h1.size.trans HPS.out.size,fun q hq=>(h1.heap q hq).trans (HPS.out.heap q hq)⟩)
   have HBE:Hid (Blk we p 94 (rpC {r with cm:=k1,st:=2} lvr hvr xvr svr uvr)):=Lib.hid (by rw[hwe];exact HBD.out.set 2 _)
   rw[←hwe]
   clear hwe y2 f2
   have y3:=HBE.out.cell 3 rfl
   have y4:=HBE.out.cell 4 rfl
   have HRE:Hid (RP i c' we r lvr hvr xvr svr uvr):=Lib.hid (HPr.out.2.2.ps HPr.out.1 HPS2.out)
   have HXE:Hid (Lx w c c'∧Fr (Fi i) c w we):=Lib.hid ⟨HXR.out.1,HXR.out.2.trans HXR.out.1 (HPS2.out.fr (by rw[HPr.out.1];exact Fi_0 i))⟩
   have HPP:Hid (w.heap.size≤p):=Lib.hid HX2.out.2.2.2
   by_cases hlt:r.nr<r.vw
   case neg=>
    have t1: ¬(r.nr:Int)<(r.vw:Int):=by omega
    have HDE:Hid (ldE r= {r with cm:=k1,st:=2}):=Lib.hid (by
     unfold ldE
     dsimp only
     rw[if_neg hlt,HK1.out])
    clear hlt
    go_quiet (fail)
    go_wp2_with fail
    go_ret2
    show LdR i c w (loadZ id n k l) _ _
    rw[HLE.out]
    refine⟨p,rfl,HPP.out,c',HXE.out.1,HXE.out.2.trans HXE.out.1 (Fr.of_below (below_drewN (Below.refl _ _) _)),?_⟩
    rw[HDE.out]
    refine RV.drewN ⟨HPr.out.1,lvr,hvr,xvr,svr,uvr,HBE.out,⟨HRE.out.lg,HRE.out.hv,?_,HRE.out.sv,HRE.out.ou⟩⟩ _
    rcases HRE.out.of with⟨g1,g2,g3⟩|g1
    ·exact .inl ⟨g1,by show(2:Nat)≠1;omega,g3⟩
    ·exact .inr g1
   case pos=>
    have t1:(r.nr:Int)<(r.vw:Int):=by omega
    have HDE:Hid (ldE r=mine {r with cm:=k1,st:=1}):=Lib.hid (by
     unfold ldE
     dsimp only
     rw[if_pos hlt,HK1.out])
    clear hlt
    go_quiet (fail)
    have HBF:=Lib.hid (HBE.out.drewN nq)
    have HRF:Hid (RP i c' (we.drewN nq) r lvr hvr xvr svr uvr):=Lib.hid (HRE.out.keep (Lx.refl _ _) fun _ _ _=>rfl)
    have HXF:Hid (Fr (Fi i) c w (we.drewN nq)):=Lib.hid (HXE.out.2.trans HXE.out.1 (Fr.of_below (below_drewN (Below.refl _ _) _)))
    generalize we.drewN nq=wf at*
    have y2:=HBF.out.cell 2 rfl
    have f2:=HBF.out.frozen 2
    go_upto_region 28 with fail
    obtain⟨wg,hwg⟩: ∃wg,wg=wf.setCell ⟨p,2,none⟩ (.int .i64 1):=⟨_,rfl⟩
    have hps:Ps p wf wg:=by rw[hwg];exact(Ps.refl p wf).set _ _
    have hBG:Blk wg p 94 (rpC {r with cm:=k1,st:=1} lvr hvr xvr svr uvr):=by rw[hwg];exact HBF.out.set 2 _
    have h7:=HRF.out.rq.ps HPr.out.1 hps
    have hq:RQ i c' wg {r with cm:=k1,st:=1} lvr hvr svr uvr:=⟨h7.lg,h7.hv,h7.sv,h7.ou⟩
    have HMI:=Lib.hid (mine_any p wg HPr.out.1 hBG hq ⟨by rw[show({r with cm:=k1,st:=1}:Rp Op).n=n from HLNR.out.nn];exact HH.out.1.1,by rw[show({r with cm:=k1,st:=1}:Rp Op).n=n from HLNR.out.nn];exact HH.out.1.2.1,by
     rw[show({r with cm:=k1,st:=1}:Rp Op).n=n from HLNR.out.nn,show({r with cm:=k1,st:=1}:Rp Op).id=id from HLNR.out.id];exact HH.out.1.2.2⟩ (by
     have h8:=HLNR.out.lo
     have h9:=totS_le l j
     have h10:=HH.out.2.2.1
     show r.log.length≤_
     omega))
    have HXG:Hid (Fr (Fi i) c w wg):=Lib.hid (HXF.out.trans HXE.out.1 (hps.fr (by rw[HPr.out.1];exact Fi_0 i)))
    rw[←hwg]
    clear hwg hps hBG h7 hq y2 f2 y3 y4 t1
    go_wp2_with fail
    refine HMI.out.mono ?_
    rintro e wh ⟨rfl,ch,hxh,hfh,hvh⟩
    have HD:Hid (Mt (Fi i) i c w wh p (ldE r)):=Lib.hid (by
     rw[HDE.out]
     refine⟨ch,fun q hq=> ?_,HXG.out.trans HXE.out.1 (hfh.mono fun l hl=>by rw[hl];exact Fi_0 i),hvh⟩
     rw[hxh q (Nat.lt_of_lt_of_le hq HXG.out.size)]
     exact HXE.out.1 q hq)
    clear hxh hfh hvh
    go_wp2_with fail
    go_ret2
    show LdR i c w (loadZ id n k l) _ _
    rw[HLE.out]
    exact⟨p,rfl,HPP.out,HD.out⟩
end Go.Proofs.YtdmjegelcdghlaaGreat.Vw
