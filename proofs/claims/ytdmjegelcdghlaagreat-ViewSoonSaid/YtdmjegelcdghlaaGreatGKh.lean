/-
  Chapter 22: a message comes.
-/
import Derived.Test.YtdmjegelcdghlaaGreatGGen
import Derived.Test.YtdmjegelcdghlaaGreatGKf
import Derived.Test.YtdmjegelcdghlaaGreatGKa
import Derived.Test.YtdmjegelcdghlaaGreatGKk
set_option maxRecDepth 100000
set_option maxHeartbeats 64000000
set_option linter.unusedVariables false
set_option linter.unusedSimpArgs false
namespace Go.Proofs.YtdmjegelcdghlaaGreat
theorem Z233 {p:Prop}(h:p:=by
 go_wp2_with fail
 go_ret
 exact⟨rfl,HD9.out⟩):p:=h
theorem Z216 {p:Prop}(h:p:=by
 rintro e w9 ⟨rfl,hm9⟩
 have HD9:Hid (Mt (Fi i) i c w w9 p (take r m)):=Lib.hid (by rw[HEA.out];exact Mt.trans HX4.out.1 HX4.out.2.1 hm9)
 exact Z35):p:=h
theorem Z201 {p:Prop}(h:p:=by
 clear hk
 go_wp2_with fail
 refine HSN.out.mono ?_
 rintro e w9 ⟨rfl,hm9⟩
 have HD9:Hid (Mt (Fi i) i c w w9 p (take r m)):=Lib.hid (by rw[HEA.out];exact Mt.trans HX3.out.1 HX3.out.2.1 (hm9.mono fun l=>Gi_Fi))
 exact Z35):p:=h
theorem Z199 {p:Prop}(h:p:=by
 go_wp2_with fail
 refine HST.out.mono ?_
 rintro e w9 ⟨rfl,hm9⟩
 have HD9:Hid (Mt (Fi i) i c w w9 p (take r m)):=Lib.hid (by rw[HD.out];exact Mt.trans HX9.out.1 HX9.out.2 (hm9.mono fun l=>Gi_Fi))
 clear hm9
 exact Z233):p:=h
theorem Z194 {p:Prop}(h:p:=by
 have HCC:=Lib.hid hc
 by_cases hA:rr.st=1
 case neg=>
  have t3: ¬(rr.st:Int)=1:=by omega
  clear hc hA
  exact Z6
 case pos=>
  have t3:(rr.st:Int)=1:=by omega
  by_cases hB:m.ao≤rr.ls
  case neg=>
   have t4: ¬(m.ao:Int)≤(rr.ls:Int):=by omega
   clear hc hA hB
   exact Z6
  case pos=>
   have t4:(m.ao:Int)≤(rr.ls:Int):=by omega
   have t5: ¬(rr.cm:Int)≤(last:Int):=by omega
   clear hc hA hB
   exact Z6):p:=h
theorem Z191 {p:Prop}(h:p:=by
 go_simp
 refine(HOWN.out _ (Below.refl _ _).drew).mono ?_
 rintro e w8 ⟨v8,rfl,hnew,hb8⟩
 have HB8:=Lib.hid ((Below.refl w6.heap.size w6).drew.trans hb8)
 have HNW:=Lib.hid hnew
 have HP8:=Lib.hid (HP7.out.below HB8.out HP7.out.lt)
 have HM8:=Lib.hid (HM7.out.1.below HB8.out HM7.out.1.lt)
 obtain⟨va8,vc8,ev8⟩:=hnew.slice
 subst ev8
 clear hnew hb8
 go_wp2_with fail
 refine hK.out _ _ ?_ (fun hHeld2=> ?_)
 ·exact Z120
 clear hK
 try simp only[ap]
 refine tkK 15 ?_ (y:=Z1)
 try simp only[ap]
 exact Z22):p:=h
theorem Z178 {p:Prop}(h:p:=by
 have HEA:=Lib.hid hea
 clear hea
 have z0:=HM4.out.1.cell 0 rfl
 have HLS:=Lib.hid (leads_any (i:=i) (c:=c1) (r:=r) p w4 HX4.out.2.2 HLR.out.1.n)
 go_wp2_with fail
 refine HLS.out.mono ?_
 rintro e wl ⟨rfl,kl,hkl⟩
 have HXL:Hid (Fr (Fi i) c w wl∧RV i c1 wl p r∧Blk wl b3 37 (msC9 m (.slice oa m.ops.length oc))):=Lib.hid Z58
 clear hkl HLS
 cases hld:leads r
 case false=>
  exact Z80
 case true=>
  have HD:Hid (take r m=start r [m.fr]):=Lib.hid (by rw[HEA.out,hld];rfl)
  have z1:=HXL.out.2.2.cell 1 rfl
  have ht:=to_one c1 wl m.fr
  have hbl:Below wl.heap.size wl (wl.alloc (.cells #[.int .i64 (m.fr:Int)] 3)):=(Below.refl _ _).alloc (Nat.le_refl _) _
  have HST:=Lib.hid (start_any (i:=i) (c:=upd c1 wl.heap.size 1) (r:=r) [m.fr] (.slice (some ⟨wl.heap.size,0,none⟩) 1 1) p (wl.alloc (.cells #[.int .i64 (m.fr:Int)] 3)) (HXL.out.2.1.below ht.1 hbl) ht.2 (Gi_1 i) (by show 1≤1000;omega) HLR.out.1.lo.1 (by have:=HLR.out.2;omega))
  have HX9:Hid (Lx w c (upd c1 wl.heap.size 1)∧Fr (Fi i) c w (wl.alloc (.cells #[.int .i64 (m.fr:Int)] 3))):=Lib.hid ⟨HX4.out.1.trans ht.1 HXL.out.1.size,HXL.out.1.trans HX4.out.1 (Fr.of_below hbl)⟩
  exact Z26):p:=h
theorem Z154 {p:Prop}(h:p:=by have:=HH.out.1.hs.1;omega):p:=h
theorem Z140 {p:Prop}(h:p:=by
 go_wp2_with fail
 go_ret
 refine⟨rfl,?_⟩
 rw[HD.out]
 exact⟨c1,HX4.out.1,HX4.out.2.1,HX4.out.2.2⟩):p:=h
theorem Z120 {p:Prop}(h:p:=by exact⟨HP8.out.cell 13 rfl,HM8.out.cell 1 rfl,HM8.out.cell 3 rfl,HM8.out.cell 4 rfl,HM8.out.cell 6 rfl,HM8.out.cell 5 rfl⟩):p:=h
theorem Z112 {p:Prop}(h:p:=by exact⟨HP7.out.cell 13 rfl,HM7.out.1.cell 1 rfl,HM7.out.1.cell 3 rfl,HM7.out.1.cell 4 rfl,HM7.out.1.cell 6 rfl,HM7.out.1.cell 5 rfl⟩):p:=h
theorem Z102 {p:Prop}(h:p:=by have:=HH.out.1.hs.2;omega):p:=h
theorem Z80 {p:Prop}(h:p:=by
 have HD:Hid (take r m=r):=Lib.hid (by rw[HEA.out,hld];rfl)
 clear hld
 go_wp2_with fail
 go_ret
 refine⟨rfl,?_⟩
 rw[HD.out]
 exact⟨c1,HX4.out.1,HXL.out.1,HXL.out.2.1⟩):p:=h
theorem Z58 {p:Prop}(h:p:=by rw[hkl];exact⟨HX4.out.2.1.trans HX4.out.1 (Fr.of_below (below_drewN (Below.refl _ _) kl)),HX4.out.2.2.drewN kl,HM4.out.1.drewN kl⟩):p:=h
theorem Z35 {p:Prop}(h:p:=by
 clear hm9
 exact Z233):p:=h
theorem Z33 {p:Prop}(h:p:=by
 have t2:(m.kd:Int)=5:=by omega
 have HPP:=Lib.hid (begun_any (i:=i) (lo:=lo) (li:=li) (c:=c1) (r:=r) m (.slice oa m.ops.length oc) p w4 HX4.out.2.2 HH.out.1.li HS4.out HH.out.2 HH.out.1.mb ⟨HH.out.1.fr.2.2.2.1,HH.out.1.fr.2.2.1⟩)
 have z0:=HM4.out.1.cell 0 rfl
 have z1:=HM4.out.1.cell 1 rfl
 have z2:=HM4.out.1.cell 2 rfl
 have z3:=HM4.out.1.cell 3 rfl
 have z4:=HM4.out.1.cell 4 rfl
 have z5:=HM4.out.1.cell 5 rfl
 have z6:=HM4.out.1.cell 6 rfl
 have z7:=HM4.out.1.cell 7 rfl
 have z8:=HM4.out.1.cell 8 rfl
 unfold msV at HPP
 rw[t2] at HPP
 have hea:take r m=begunM r m:=by unfold take;rw[if_neg (show¬m.vw<r.vw by omega)];rw[if_neg (show¬m.kd=1 by omega)];rw[if_neg (show¬m.kd=2 by omega)];rw[if_neg (show¬m.kd=3 by omega)];rw[if_neg (show¬m.kd=4 by omega)];rw[if_pos (show m.kd=5 by omega)]
 have HEA:=Lib.hid hea
 clear hea
 go_wp2_with fail
 refine HPP.out.mono ?_
 rintro e w9 ⟨rfl,hm9⟩
 have HD9:Hid (Mt (Fi i) i c w w9 p (take r m)):=Lib.hid (by rw[HEA.out];exact Mt.trans HX4.out.1 HX4.out.2.1 hm9)
 clear hm9
 exact Z233):p:=h
theorem Z26 {p:Prop}(h:p:=by
 clear ht hbl hld
 exact Z199):p:=h
theorem Z22 {p:Prop}(h:p:=by
 refine wpAnyK_lasts [] (by kernel_rfl) (by rfl) (by rfl) ?_
 simp only[List.filterMap_cons,List.filterMap_nil,List.getElem?_toArray,List.getElem?_cons_succ,List.getElem?_cons_zero]
 have hrw:=HNW.out.row c5 1 1
 have hM8:=HR7.out.2.2.2.keep hrw.1 (HB8.out.block q HR7.out.2.2.2.lt) fun k hk _=>HB8.out.block k hk
 have hcm:Lb.new c5 w6.drew.heap.size (.slice va8 m.ops.length vc8) 1 1 q=13+10*i:=(hrw.1 q HR7.out.2.2.2.lt).trans HR7.out.2.2.1
 obtain⟨w9,hupd,hg9,hM9⟩:=hM8.put (by rw[hcm];omega) (k:=m.fr) (by rw[HRR.out.2.2.2.2.1];exact HH.out.1.fr.1) (by have:=HRR.out.1.n;omega) ⟨m.nr,m.ao,m.cm,m.ops⟩ (.slice va8 m.ops.length vc8) hrw.2.sl (by have:=HH.out.1.op;show m.ops.length≤_;omega)
 unfold ofV at hupd
 simp only at hupd
 have HUPD:=Lib.hid hupd
 obtain⟨r9,hr9⟩: ∃r9,r9= {rr with offs:=upd rr.offs m.fr (some ⟨m.nr,m.ao,m.cm,m.ops⟩)}:=⟨_,rfl⟩
 have HR9:=Lib.hid hr9
 have HX9:Hid (∃c9,Lx w c c9∧Fr (Fi i) c w w9∧RV i c9 w9 p r9):=Lib.hid (by
  have h2: ∀k,k<w6.heap.size→k≠q→w9.heap[k]?=w6.heap[k]?:=fun k hk hne=>(hg9.block k (Nat.lt_of_lt_of_le hk HB8.out.size) fun e=>hne (by cases e;rfl)).trans (HB8.out.block k hk)
  have hpq:p≠q:=fun e=>by have h1:=HR7.out.1;have h3:=HR7.out.2.2.1;rw[e] at h1;omega
  refine⟨_,HX6.out.1.trans hrw.1 HX6.out.2.1.size,?_,(hrw.1 p HP7.out.lt).trans HR7.out.1,lv7,hv7,.map (some q),sv7,uv7,(h2 p HP7.out.lt hpq).trans (by rw[hr9];exact HP7.out),?_⟩
  ·refine(HX6.out.2.1.trans HX6.out.1 (Fr.of_below (F:=Fi i) (c:=c5) HB8.out)).grown hg9 fun k hk hkl=> ?_
   cases hk
   have h3:c q=c5 q:=(HX6.out.1 q hkl).symm
   rw[h3,HR7.out.2.2.1]
   unfold Fi;omega
  ·have h3:RQ i (Lb.new c5 w6.drew.heap.size (.slice va8 m.ops.length vc8) 1 1) w9 rr lv7 hv7 sv7 uv7:=HR7.out.2.1.rq.keep hrw.1 fun k hk _ h13=>h2 k hk fun e=>h13 (by rw[e];exact HR7.out.2.2.1)
   rw[hr9]
   exact⟨h3.lg,h3.hv,.inr ⟨q,rfl,hcm,hM9⟩,h3.sv,h3.ou⟩)
 have HL9:Hid (LI r9∧OB r9∧r9.saves.length≤49000∧r9.out.length≤49000):=Lib.hid (by
  rw[hr9]
  have h0:=HRR.out.1
  have h1:=HRR.out.2.2.1
  have h2:=HRR.out.2.2.2.1
  refine⟨⟨h0.n,h0.id,h0.vw,h0.nr,h0.bs,h0.ls,h0.lo,h0.hv,h0.sv,h0.ou⟩,fun k o ho=> ?_,by show rr.saves.length≤_;omega,by show rr.out.length≤_;omega⟩
  have ho':upd rr.offs m.fr (some ⟨m.nr,m.ao,m.cm,m.ops⟩) k=some o:=ho
  by_cases e:k=m.fr
  ·have e2:upd rr.offs m.fr (some (⟨m.nr,m.ao,m.cm,m.ops⟩:Of Op)) k=some ⟨m.nr,m.ao,m.cm,m.ops⟩:=by unfold upd;rw[if_pos e]
   rw[e2] at ho'
   cases ho'
   have h3:=HCC.out
   have h4:=HLA.out
   exact⟨HH.out.1.fr.2.2.2.2,h3.2.1,HH.out.1.mb.cm,by show rr.cm≤m.ao+m.ops.length;omega,HRR.out.2.2.2.2.2 h3.1 h3.2.1,by have:=HH.out.1.op;show m.ops.length≤_;omega⟩
  ·have e2:upd rr.offs m.fr (some (⟨m.nr,m.ao,m.cm,m.ops⟩:Of Op)) k=rr.offs k:=by unfold upd;rw[if_neg e]
   rw[e2] at ho'
   exact HRR.out.2.1 k o ho')
 clear hupd hg9 hM9 hM8 hcm hrw hHeld1 hHeld2 hr9
 obtain⟨c9,hc9⟩:=HX9.out
 have HX10:=Lib.hid hc9
 clear hc9
 have HBG:=Lib.hid (begin_any (i:=i) (c:=c9) (r:=r9) p w9 HX10.out.2.2 HL9.out.1 HL9.out.2.1 HL9.out.2.2)
 have hea:take r m=begin_ r9:=by
  rw[HEA.out]
  unfold offerM
  rw[if_pos ⟨HCC.out.1,HCC.out.2.1,by rw[←HLA.out];exact HCC.out.2.2⟩,HR9.out]
 have HEB:=Lib.hid hea
 clear hea
 refine wpList_execS rfl (exec_upd 92 (.tmp 142) (.tmp 144) (.tmp 154) rfl rfl rfl rfl HUPD.out) ?_
 go_wp2_with fail
 refine HBG.out.mono ?_
 rintro e w11 ⟨rfl,hm9⟩
 have HD9:Hid (Mt (Fi i) i c w w11 p (take r m)):=Lib.hid (by rw[HEB.out];exact Mt.trans HX10.out.1 HX10.out.2.1 hm9)
 clear hm9
 exact Z233):p:=h
theorem Z6 {p:Prop}(h:p:=by
 have hea:take r m=if leads rr then start rr [m.fr] else rr:=by
  rw[HEA.out]
  unfold offerM
  rw[if_neg (fun h=>HCC.out ⟨h.1,h.2.1,by rw[HLA.out];exact h.2.2⟩)]
 have HEB:=Lib.hid hea
 clear hea
 have HLR:Hid (LI rr∧rr.out.length≤45000):=Lib.hid ⟨HRR.out.1,by have:=HRR.out.2.2.2.1;omega⟩
 have HLS:=Lib.hid (leads_any (i:=i) (c:=c5) (r:=rr) p w6 HX6.out.2.2 HLR.out.1.n)
 go_wp2_with fail
 refine HLS.out.mono ?_
 rintro e wl ⟨rfl,kl,hkl⟩
 have HXL:Hid (Fr (Fi i) c w wl∧RV i c5 wl p rr∧Blk wl b3 37 (msC9 m (.slice oa m.ops.length oc))):=Lib.hid (by rw[hkl];exact⟨HX6.out.2.1.trans HX6.out.1 (Fr.of_below (below_drewN (Below.refl _ _) kl)),HX6.out.2.2.drewN kl,HM6.out.1.drewN kl⟩)
 clear hkl HLS
 cases hld:leads rr
 case false=>
  have HD:Hid (take r m=rr):=Lib.hid (by rw[HEB.out,hld];rfl)
  clear hld
  go_wp2_with fail
  go_ret
  refine⟨rfl,?_⟩
  rw[HD.out]
  exact⟨c5,HX6.out.1,HXL.out.1,HXL.out.2.1⟩
 case true=>
  have HD:Hid (take r m=start rr [m.fr]):=Lib.hid (by rw[HEB.out,hld];rfl)
  have z1:=HXL.out.2.2.cell 1 rfl
  have ht:=to_one c5 wl m.fr
  have hbl:Below wl.heap.size wl (wl.alloc (.cells #[.int .i64 (m.fr:Int)] 3)):=(Below.refl _ _).alloc (Nat.le_refl _) _
  have HST:=Lib.hid (start_any (i:=i) (c:=upd c5 wl.heap.size 1) (r:=rr) [m.fr] (.slice (some ⟨wl.heap.size,0,none⟩) 1 1) p (wl.alloc (.cells #[.int .i64 (m.fr:Int)] 3)) (HXL.out.2.1.below ht.1 hbl) ht.2 (Gi_1 i) (by show 1≤1000;omega) HLR.out.1.lo.1 (by have:=HLR.out.2;omega))
  have HX9:Hid (Lx w c (upd c5 wl.heap.size 1)∧Fr (Fi i) c w (wl.alloc (.cells #[.int .i64 (m.fr:Int)] 3))):=Lib.hid ⟨HX6.out.1.trans ht.1 HXL.out.1.size,HXL.out.1.trans HX6.out.1 (Fr.of_below hbl)⟩
  clear ht hbl hld
  exact Z199):p:=h
end Go.Proofs.YtdmjegelcdghlaaGreat
namespace Go.Proofs.YtdmjegelcdghlaaGreat.Vw
open Go.RowKit Go.Maps
theorem begin_li {r:Rp Op}(h:LI r)(hb:OB r)(hs:r.saves.length≤48500∧r.out.length≤48500):
 LI (begin_ r)∧OB (begin_ r)∧(begin_ r).saves.length≤r.saves.length+1∧(begin_ r).out.length≤r.out.length+r.n∧((begin_ r).st=1→begin_ r=r):=by
 have h0:LI r∧OB r∧r.saves.length≤r.saves.length+1∧r.out.length≤r.out.length+r.n∧(r.st=1→r=r):=⟨h,hb,Nat.le_succ _,Nat.le_add_right _ _,fun _=>rfl⟩
 unfold begin_
 split
 ·split
  ·exact h0
  ·rename_i o ho
   obtain⟨k,hk,hko⟩:=List.mem_filterMap.1 (bestO_mem _ _ ho)
   obtain⟨h1,h2,h3⟩:=h.begun hb hko ⟨Z11,Z11⟩
   dsimp only
   obtain⟨o',e1,e2⟩:=start_len (save (begun1 r o) (max o.ao r.bs)) (List.range (save (begun1 r o) (max o.ao r.bs)).n)
   rw[List.length_range] at e2
   have e3:(save (begun1 r o) (max o.ao r.bs)).n=r.n:=rfl
   have e4:(save (begun1 r o) (max o.ao r.bs)).out=r.out:=rfl
   have h4:=h.n
   rw[e1]
   rw[e3,e4] at e2
   refine⟨((h1.save _ (by show r.saves.length+1≤_;omega)).outs o' Z11).count,fun k o hk=> ?_,?_,?_,fun h5=> ?_⟩
   ·cases hk
   ·show(r.saves++ [_]).length≤_
    rw[List.length_append]
    exact Nat.le_refl _
   ·show o'.length≤_
    exact e2
   ·exact absurd h5 Z77
 ·exact h0
theorem change_li {r:Rp Op}(h:LI r){v:Nat}(hv:r.vw≤v)(ht:v≤TM)(hs:r.saves.length≤48000∧r.out.length≤48000):
 LI (change r v)∧OB (change r v)∧(change r v).saves.length≤r.saves.length+2∧(change r v).out.length≤r.out.length+2*r.n+1∧((change r v).st=1→(change r v).ls=r.ls∧(change r v).bs=r.bs∧(change r v).cm=r.cm):=by
 unfold change
 obtain⟨t1,t2,t3,t4⟩:=turn_len r v
 obtain⟨o1,e1,g1⟩:=sndL_len2 (mKd 3) (turn r v) (List.range r.n)
 rw[List.length_range,t1] at g1
 rw[e1]
 obtain⟨o2,e2,g2⟩:=offer_len {turn r v with out:=o1}
 rw[e2]
 have h1:o2.length≤o1.length+1:=g2
 have hn:=h.n
 have hl:LI {turn r v with out:=o2}:=(h.turn hv ht Z11).outs o2 Z11
 obtain⟨b1,b2,b3,b4,b5⟩:=begin_li (r:= {turn r v with out:=o2}) hl ((OB.turn h hv ht).outs o2) ⟨by show(turn r v).saves.length≤_;omega,by show o2.length≤_;omega⟩
 have b3':(begin_ {turn r v with out:=o2}).saves.length≤(turn r v).saves.length+1:=b3
 have b4':(begin_ {turn r v with out:=o2}).out.length≤o2.length+r.n:=b4
 refine⟨b1,b2,Nat.le_trans b3' Z11,Nat.le_trans b4' Z11,fun h5=> ?_⟩
 rw[b5 h5]
 exact⟨rfl,rfl,rfl⟩
structure TB (r:Rp Op)(m:Ms Op):Prop where
 li:LI r
 hb:leads r=true→HB r
 ob:OB r
 mb:MB r m
 mm:mayM mayO r m=true
 hs:r.saves.length≤40000∧r.out.length≤40000
 op:m.ops.length≤1000000
theorem TB.fr {r:Rp Op}{m:Ms Op}(h:TB r m):m.fr<r.n∧m.fr≠r.id∧m.vw≤TM∧m.cm≤m.ao+m.ops.length∧m.nr≤TM:=by
 have h1:=h.mm
 unfold mayM at h1
 simp only[Bool.and_eq_true,Bool.or_eq_true,decide_eq_true_eq] at h1
 obtain⟨⟨⟨⟨⟨⟨⟨⟨⟨h2,h3⟩,h4⟩,h5⟩,h6⟩,h7⟩,h8⟩,h9⟩,h10⟩,h11⟩:=h1
 refine⟨h2,h3,h4,h7,?_⟩
 by_cases k4:m.kd=4
 ·rw[if_neg Z11,if_neg Z11,if_pos k4] at h11
  simp only[Bool.and_eq_true,decide_eq_true_eq] at h11
  omega
 ·omega
theorem change_n (r:Rp Op)(v:Nat):(change r v).n=r.n:=by
 unfold change begin_ offer
 rw[snd1_eq,sndL_eq]
 split
 ·split
  ·rfl
  ·dsimp only
   rw[start_eq];rfl
 ·rfl
theorem take_any {i lo li:Nat}{c:Lb}{r:Rp Op}(m:Ms Op)(ov:Value)(p:Nat)(w:World)(h:RV i c w p r)(hm:SlR (opE li) c lo w ov m.ops)(hlo: ¬Fi i lo∧ ¬Fi i li)(ht:TB r m):
 Calls Tryz.prog 13 #[.pointer (some ⟨p,0,none⟩),msV m.kd m.fr m.vw m.nr m.ao ov m.cm m.sb m.ls] w fun e w'=>e= .returned (.int .i64 0)∧Mt (Fi i) i c w w' p (take r m):=by
 obtain⟨oa,oc,eo⟩:=hm.slice
 subst eo
 have hpl:=h.lt
 have HMY:Hid (∀W,Below w.heap.size w W→Calls Tryz.prog 52 #[.pointer (some ⟨p,0,none⟩),msV m.kd m.fr m.vw m.nr m.ao (.slice oa m.ops.length oc) m.cm m.sb m.ls] W fun e w'=>e= .returned (.bool true)∧Below W.heap.size W w'):=Lib.hid (fun W hb=>by
  have h1:=may_any m.z (.slice oa m.ops.length oc) p W (h.below (Lx.refl _ _) hb) ht.li.n (hm.below (opE_ok li) hb) ht.op
  rw[mayZ_z,ht.mm] at h1
  exact h1)
 have HH:=Lib.hid (And.intro ht hlo)
 have H0:=Lib.hid (And.intro h hm)
 have hkinds:m.kd=1∨m.kd=2∨m.kd=3∨m.kd=4∨m.kd=5∨m.kd=6:=by
  have h1:=ht.mm
  unfold mayM at h1
  simp only[Bool.and_eq_true,Bool.or_eq_true,decide_eq_true_eq] at h1
  have h2:=h1.2
  refine Classical.byContradiction fun hn=> ?_
  rw[if_neg Z11,if_neg Z11,if_neg Z11,if_neg Z11,if_neg Z11] at h2
  cases h2
 have HKD:=Lib.hid hkinds
 clear h hm ht hlo hkinds
 unfold msV at HMY⊢
 go_enter Tryz.func13,Tryz.ntmps13
 go_upto_region 3 with fail
 obtain⟨w1,hw1⟩: ∃w1,w1=w.alloc (.cells #[.int .i64 (m.kd:Int),.int .i64 (m.fr:Int),.int .i64 (m.vw:Int),.int .i64 (m.nr:Int),.int .i64 (m.ao:Int),.slice oa m.ops.length oc,.int .i64 (m.cm:Int),.int .i64 (m.sb:Int),.int .i64 (m.ls:Int)] 37):=⟨_,rfl⟩
 obtain⟨b3,hb3⟩: ∃b3,b3=w.heap.size:=⟨_,rfl⟩
 have HB1:Hid (Below w.heap.size w w1):=Lib.hid Z41
 have HM1:Hid (Blk w1 b3 37 (msC9 m (.slice oa m.ops.length oc))):=Lib.hid (by rw[hw1,hb3];exact Blk.new w 37 _)
 obtain⟨c1,hc1⟩: ∃c1,c1=c.ext w.heap.size:=⟨_,rfl⟩
 have HC1:Hid (Lx w c c1∧c1 b3=1):=Lib.hid ⟨by rw[hc1];exact c.ext_lx w,Z143⟩
 rw[←hw1,←hb3]
 clear hw1 hb3 hc1
 have z0:=HM1.out.cell 0 rfl
 have z1:=HM1.out.cell 1 rfl
 have z2:=HM1.out.cell 2 rfl
 have z3:=HM1.out.cell 3 rfl
 have z4:=HM1.out.cell 4 rfl
 have z5:=HM1.out.cell 5 rfl
 have z6:=HM1.out.cell 6 rfl
 have z7:=HM1.out.cell 7 rfl
 have z8:=HM1.out.cell 8 rfl
 go_wp2_with fail
 refine(HMY.out _ HB1.out).mono ?_
 rintro e w2 ⟨rfl,hb2⟩
 have HX2:Hid (Lx w c c1∧Fr (Fi i) c w w2∧RV i c1 w2 p r):=Lib.hid (by
  have hb:Below w.heap.size w w2:=HB1.out.trans (hb2.mono HB1.out.size)
  exact⟨HC1.out.1,Fr.of_below hb,H0.out.1.below HC1.out.1 hb⟩)
 have HM2:Hid (Blk w2 b3 37 (msC9 m (.slice oa m.ops.length oc))∧c1 b3=1):=Lib.hid ⟨HM1.out.below hb2 HM1.out.lt,HC1.out.2⟩
 have HS2:Hid (SlR (opE li) c1 lo w2 (.slice oa m.ops.length oc) m.ops):=Lib.hid ((H0.out.2.lx (opE_ok li) HC1.out.1).below (opE_ok li) (HB1.out.trans (hb2.mono HB1.out.size)))
 clear hb2 z0 z1 z2 z3 z4 z5 z6 z7 z8 HMY HM1 HB1 HC1 H0
 have z2:=HM2.out.1.cell 2 rfl
 obtain⟨_,_,_,_,_,_,hbp2,_⟩:=HX2.out.2.2
 have y3:=hbp2.cell 3 rfl
 clear hbp2
 go_upto_region 5 with fail
 by_cases hlow:m.vw<r.vw
 case pos=>
  have t1:(m.vw:Int)<(r.vw:Int):=by omega
  go_quiet (fail)
  clear y3 z2 t1
  have HX3:Hid (Lx w c c1∧Fr (Fi i) c w (w2.drewN nq)∧RV i c1 (w2.drewN nq) p r):=Lib.hid ⟨HX2.out.1,HX2.out.2.1.trans HX2.out.1 (Fr.of_below (below_drewN (Below.refl _ _) nq)),HX2.out.2.2.drewN nq⟩
  have HM3:Hid (Blk (w2.drewN nq) b3 37 (msC9 m (.slice oa m.ops.length oc))∧c1 b3=1):=Lib.hid ⟨HM2.out.1.drewN nq,HM2.out.2⟩
  have HS3:Hid (SlR (opE li) c1 lo (w2.drewN nq) (.slice oa m.ops.length oc) m.ops):=Lib.hid (HS2.out.keep (opE_ok li) (Lx.refl _ _) fun _ _ _=>rfl)
  generalize w2.drewN nq=w3 at*
  have z0:=HM3.out.1.cell 0 rfl
  have z1:=HM3.out.1.cell 1 rfl
  by_cases hk:m.kd=1∨m.kd=6
  case pos=>
   have HSN:=Lib.hid (send_one (i:=i) (c:=c1) (r:=r) (mKd 3) m.fr (.slice none 0 0) p w3 HX3.out.2.2 (SlR.nil _ _ 1 _) (Gi_1 i) (Nat.zero_le _) Z102)
   have HEA:Hid (take r m=snd1 (mKd 3) r m.fr):=Lib.hid (by unfold take;rw[if_pos hlow,if_pos hk])
   unfold mKd msV at HSN
   simp only at HSN
   clear hlow
   rcases hk with hk|hk
   ·have t2:(m.kd:Int)=1:=by omega
    exact Z201
   ·have t2:(m.kd:Int)=6:=by omega
    exact Z201
  case neg=>
   have t2: ¬(m.kd:Int)=1:=by omega
   have t3: ¬(m.kd:Int)=6:=by omega
   have HEA:Hid (take r m=r):=Lib.hid (by unfold take;rw[if_pos hlow,if_neg hk])
   clear hlow hk
   go_wp2_with fail
   go_ret
   refine⟨rfl,?_⟩
   rw[HEA.out]
   exact⟨c1,HX3.out.1,HX3.out.2.1,HX3.out.2.2⟩
 case neg=>
  have t1: ¬(m.vw:Int)<(r.vw:Int):=by omega
  go_quiet (fail)
  clear y3 z2 t1
  have HX3:Hid (Lx w c c1∧Fr (Fi i) c w (w2.drewN nq)∧RV i c1 (w2.drewN nq) p r):=Lib.hid ⟨HX2.out.1,HX2.out.2.1.trans HX2.out.1 (Fr.of_below (below_drewN (Below.refl _ _) nq)),HX2.out.2.2.drewN nq⟩
  have HM3:Hid (Blk (w2.drewN nq) b3 37 (msC9 m (.slice oa m.ops.length oc))∧c1 b3=1):=Lib.hid ⟨HM2.out.1.drewN nq,HM2.out.2⟩
  have HS3:Hid (SlR (opE li) c1 lo (w2.drewN nq) (.slice oa m.ops.length oc) m.ops):=Lib.hid (HS2.out.keep (opE_ok li) (Lx.refl _ _) fun _ _ _=>rfl)
  generalize w2.drewN nq=w3 at*
  have z2:=HM3.out.1.cell 2 rfl
  obtain⟨_,_,_,_,_,_,hbp3,_⟩:=HX3.out.2.2
  have y3:=hbp3.cell 3 rfl
  clear hbp3
  go_upto_region 9 with fail
  by_cases hup:r.vw<m.vw
  case pos=>
   have t1:(r.vw:Int)<(m.vw:Int):=by omega
   go_quiet (fail)
   clear y3 z2 t1
   have HX4:Hid (Lx w c c1∧Fr (Fi i) c w (w3.drewN nq)∧RV i c1 (w3.drewN nq) p r):=Lib.hid ⟨HX3.out.1,HX3.out.2.1.trans HX3.out.1 (Fr.of_below (below_drewN (Below.refl _ _) nq)),HX3.out.2.2.drewN nq⟩
   have HM4:Hid (Blk (w3.drewN nq) b3 37 (msC9 m (.slice oa m.ops.length oc))∧c1 b3=1):=Lib.hid ⟨HM3.out.1.drewN nq,HM3.out.2⟩
   have HS4:Hid (SlR (opE li) c1 lo (w3.drewN nq) (.slice oa m.ops.length oc) m.ops):=Lib.hid (HS3.out.keep (opE_ok li) (Lx.refl _ _) fun _ _ _=>rfl)
   generalize w3.drewN nq=w4 at*
   rcases HKD.out with hk|hk|hk|hk|hk|hk
   ·have t2:(m.kd:Int)=1:=by omega
    have HT:=Lib.hid (turn_any (i:=i) (c:=c1) (r:=r) m.vw p w4 HX4.out.2.2 HH.out.1.li)
    have z0:=HM4.out.1.cell 0 rfl
    have z2:=HM4.out.1.cell 2 rfl
    go_wp2_with fail
    refine HT.out.mono ?_
    rintro e w5 ⟨rfl,c5,hx,hf,hv⟩
    have HX5:Hid (Lx w c c5∧Fr (Fi i) c w w5∧RV i c5 w5 p (turn r m.vw)):=Lib.hid ⟨HX4.out.1.trans hx HX4.out.2.1.size,HX4.out.2.1.trans HX4.out.1 hf,hv⟩
    have HM5:Hid (Blk w5 b3 37 (msC9 m (.slice oa m.ops.length oc))∧c5 b3=1):=Lib.hid ⟨(hf.block b3 HM4.out.1.lt (by rw[HM4.out.2];unfold Fi;omega)).trans HM4.out.1,(hx b3 HM4.out.1.lt).trans HM4.out.2⟩
    have HS5:Hid (SlR (opE li) c5 lo w5 (.slice oa m.ops.length oc) m.ops):=Lib.hid (HS4.out.fr (opE_ok li) hx hf fun k hk=>by
     rcases hk with hk|hk
     ·have:k=li:=hk
      rw[this];exact HH.out.2.2
     ·rw[hk];exact HH.out.2.1)
    clear hx hf hv
    clear z0 z2 HT
    have HPP:=Lib.hid (prepare_any (i:=i) (lo:=lo) (li:=li) (c:=c5) (r:=(turn r m.vw)) m (.slice oa m.ops.length oc) p w5 HX5.out.2.2 (HH.out.1.li.turn Z11 HH.out.1.fr.2.2.1 Z154) HS5.out HH.out.2 ⟨HH.out.1.mb.op,HH.out.1.mb.ao,HH.out.1.mb.cm,HH.out.1.mb.lo⟩)
    have z0:=HM5.out.1.cell 0 rfl
    have z1:=HM5.out.1.cell 1 rfl
    have z2:=HM5.out.1.cell 2 rfl
    have z3:=HM5.out.1.cell 3 rfl
    have z4:=HM5.out.1.cell 4 rfl
    have z5:=HM5.out.1.cell 5 rfl
    have z6:=HM5.out.1.cell 6 rfl
    have z7:=HM5.out.1.cell 7 rfl
    have z8:=HM5.out.1.cell 8 rfl
    unfold msV at HPP
    rw[t2] at HPP
    have hea:take r m=prepare (turn r m.vw) m:=by unfold take;rw[if_neg (show¬m.vw<r.vw by omega)];rw[if_pos (show m.kd=1 by omega)];rw[if_pos (show r.vw<m.vw by omega)]
    have HEA:=Lib.hid hea
    clear hea
    go_wp2_with fail
    refine HPP.out.mono ?_
    rintro e w9 ⟨rfl,hm9⟩
    have HD9:Hid (Mt (Fi i) i c w w9 p (take r m)):=Lib.hid (by rw[HEA.out];exact Mt.trans HX5.out.1 HX5.out.2.1 hm9)
    exact Z35
   ·have t2:(m.kd:Int)=2:=by omega
    have z0:=HM4.out.1.cell 0 rfl
    have HD:Hid (take r m=r):=Lib.hid (by unfold take;rw[if_neg (show¬m.vw<r.vw by omega)];rw[if_neg (show¬m.kd=1 by omega)];rw[if_pos (show m.kd=2 by omega)];rw[if_pos (show r.vw<m.vw by omega)])
    exact Z140
   ·have t2:(m.kd:Int)=3:=by omega
    have HC:=Lib.hid (change_any (i:=i) (c:=c1) (r:=r) m.vw p w4 HX4.out.2.2 HH.out.1.li Z11 HH.out.1.fr.2.2.1 ⟨Z154,Z102⟩)
    have z0:=HM4.out.1.cell 0 rfl
    have z2:=HM4.out.1.cell 2 rfl
    have hea:take r m=change r m.vw:=by unfold take;rw[if_neg (show¬m.vw<r.vw by omega)];rw[if_neg (show¬m.kd=1 by omega)];rw[if_neg (show¬m.kd=2 by omega)];rw[if_pos (show m.kd=3 by omega)];rw[if_pos (show r.vw<m.vw by omega)]
    have HEA:=Lib.hid hea
    clear hea
    go_wp2_with fail
    refine HC.out.mono ?_
    exact Z216
   ·have t2:(m.kd:Int)=4:=by omega
    have HC:=Lib.hid (change_any (i:=i) (c:=c1) (r:=r) m.vw p w4 HX4.out.2.2 HH.out.1.li Z11 HH.out.1.fr.2.2.1 ⟨Z154,Z102⟩)
    obtain⟨rr,hrr⟩: ∃rr,rr=change r m.vw:=⟨_,rfl⟩
    have hea:take r m=offerM rr m:=by rw[hrr];unfold take;rw[if_neg (show¬m.vw<r.vw by omega)];rw[if_neg (show¬m.kd=1 by omega)];rw[if_neg (show¬m.kd=2 by omega)];rw[if_neg (show¬m.kd=3 by omega)];rw[if_pos (show m.kd=4 by omega)];rw[if_pos (show r.vw<m.vw by omega)]
    have HEA:=Lib.hid hea
    have HRR:Hid (LI rr∧OB rr∧rr.saves.length≤41000∧rr.out.length≤41000∧rr.n=r.n∧(rr.st=1→m.ao≤rr.ls→m.ao+m.ops.length≤rr.bs+1000000)):=Lib.hid (by
     obtain⟨h1,h2,h3,h4,h5⟩:=change_li (r:=r) (v:=m.vw) HH.out.1.li Z11 HH.out.1.fr.2.2.1 ⟨Z154,Z102⟩
     have h6:=HH.out.1.hs
     have h7:=HH.out.1.li.n
     rw[hrr]
     refine⟨h1,h2,Z11,Z11,change_n r m.vw,fun h8 h9=> ?_⟩
     obtain⟨g1,g2,g3⟩:=h5 h8
     rw[g1] at h9
     rw[g2]
     exact HH.out.1.mb.lo h9)
    have z0:=HM4.out.1.cell 0 rfl
    have z2:=HM4.out.1.cell 2 rfl
    go_wp2_with fail
    rw[←hrr] at HC
    clear hea hrr
    refine HC.out.mono ?_
    rintro e w5 ⟨rfl,c5,hx,hf,hv⟩
    have HX5:Hid (Lx w c c5∧Fr (Fi i) c w w5∧RV i c5 w5 p rr):=Lib.hid ⟨HX4.out.1.trans hx HX4.out.2.1.size,HX4.out.2.1.trans HX4.out.1 hf,hv⟩
    have HM5:Hid (Blk w5 b3 37 (msC9 m (.slice oa m.ops.length oc))∧c5 b3=1):=Lib.hid ⟨(hf.block b3 HM4.out.1.lt (by rw[HM4.out.2];unfold Fi;omega)).trans HM4.out.1,(hx b3 HM4.out.1.lt).trans HM4.out.2⟩
    have HS5:Hid (SlR (opE li) c5 lo w5 (.slice oa m.ops.length oc) m.ops):=Lib.hid (HS4.out.fr (opE_ok li) hx hf fun k hk=>by
     rcases hk with hk|hk
     ·have:k=li:=hk
      rw[this];exact HH.out.2.2
     ·rw[hk];exact HH.out.2.1)
    clear hx hf hv
    clear z0 z2 HC
    have z0:=HM5.out.1.cell 0 rfl
    have z4:=HM5.out.1.cell 4 rfl
    have z5:=HM5.out.1.cell 5 rfl
    obtain⟨hlp5,lv5,hv5,xv5,sv5,uv5,hbp5,hrp5⟩:=HX5.out.2.2
    have hcs:=hbp5
    unfold rpC at hcs
    have y0:=hcs.cell 0 rfl
    have y1:=hcs.cell 1 rfl
    have y2:=hcs.cell 2 rfl
    have y3:=hcs.cell 3 rfl
    have y4:=hcs.cell 4 rfl
    have y5:=hcs.cell 5 rfl
    have y6:=hcs.cell 6 rfl
    have y7:=hcs.cell 7 rfl
    have y8:=hcs.cell 8 rfl
    have y9:=hcs.cell 9 rfl
    have hpl5:p<w5.heap.size:=hbp5.lt
    have hbl5:b3<w5.heap.size:=HM5.out.1.lt
    clear hlp5 hbp5 hrp5 hcs
    obtain⟨last,hlast⟩: ∃last,last=m.ao+m.ops.length:=⟨_,rfl⟩
    have hw5:IntKind.i64.wrap ((m.ao:Int)+(m.ops.length:Int))=(last:Int):=by
     have h1:=HH.out.1.mb.ao
     have h2:=HH.out.1.op
     exact Z192
    have HLA:=Lib.hid hlast
    clear hlast
    go_upto_region 34 with fail
    have HBA:Hid (Below w5.heap.size w5 (w5.alloc (.cells #[.int .i64 (rr.id:Int),.int .i64 (rr.n:Int),.int .i64 (rr.st:Int),.int .i64 (rr.vw:Int),.int .i64 (rr.nr:Int),.int .i64 (rr.bs:Int),.int .i64 (rr.td:Int),.int .i64 (rr.cm:Int),.int .i64 (rr.sb:Int),.int .i64 (rr.ls:Int)] 39))):=Lib.hid ((Below.refl _ _).alloc (Nat.le_refl _) _)
    have HX6:Hid (Lx w c c5∧Fr (Fi i) c w (w5.alloc (.cells #[.int .i64 (rr.id:Int),.int .i64 (rr.n:Int),.int .i64 (rr.st:Int),.int .i64 (rr.vw:Int),.int .i64 (rr.nr:Int),.int .i64 (rr.bs:Int),.int .i64 (rr.td:Int),.int .i64 (rr.cm:Int),.int .i64 (rr.sb:Int),.int .i64 (rr.ls:Int)] 39))∧RV i c5 (w5.alloc (.cells #[.int .i64 (rr.id:Int),.int .i64 (rr.n:Int),.int .i64 (rr.st:Int),.int .i64 (rr.vw:Int),.int .i64 (rr.nr:Int),.int .i64 (rr.bs:Int),.int .i64 (rr.td:Int),.int .i64 (rr.cm:Int),.int .i64 (rr.sb:Int),.int .i64 (rr.ls:Int)] 39)) p rr):=Lib.hid ⟨HX5.out.1,HX5.out.2.1.trans HX5.out.1 (Fr.of_below HBA.out),HX5.out.2.2.below (Lx.refl _ _) HBA.out⟩
    have HM6:Hid (Blk (w5.alloc (.cells #[.int .i64 (rr.id:Int),.int .i64 (rr.n:Int),.int .i64 (rr.st:Int),.int .i64 (rr.vw:Int),.int .i64 (rr.nr:Int),.int .i64 (rr.bs:Int),.int .i64 (rr.td:Int),.int .i64 (rr.cm:Int),.int .i64 (rr.sb:Int),.int .i64 (rr.ls:Int)] 39)) b3 37 (msC9 m (.slice oa m.ops.length oc))∧c5 b3=1):=Lib.hid ⟨HM5.out.1.below HBA.out hbl5,HM5.out.2⟩
    have HS6:Hid (SlR (opE li) c5 lo (w5.alloc (.cells #[.int .i64 (rr.id:Int),.int .i64 (rr.n:Int),.int .i64 (rr.st:Int),.int .i64 (rr.vw:Int),.int .i64 (rr.nr:Int),.int .i64 (rr.bs:Int),.int .i64 (rr.td:Int),.int .i64 (rr.cm:Int),.int .i64 (rr.sb:Int),.int .i64 (rr.ls:Int)] 39)) (.slice oa m.ops.length oc) m.ops):=Lib.hid (HS5.out.below (opE_ok li) HBA.out)
    have HBS:Hid (Blk (w5.alloc (.cells #[.int .i64 (rr.id:Int),.int .i64 (rr.n:Int),.int .i64 (rr.st:Int),.int .i64 (rr.vw:Int),.int .i64 (rr.nr:Int),.int .i64 (rr.bs:Int),.int .i64 (rr.td:Int),.int .i64 (rr.cm:Int),.int .i64 (rr.sb:Int),.int .i64 (rr.ls:Int)] 39)) w5.heap.size 39 [.int .i64 (rr.id:Int),.int .i64 (rr.n:Int),.int .i64 (rr.st:Int),.int .i64 (rr.vw:Int),.int .i64 (rr.nr:Int),.int .i64 (rr.bs:Int),.int .i64 (rr.td:Int),.int .i64 (rr.cm:Int),.int .i64 (rr.sb:Int),.int .i64 (rr.ls:Int)]):=Lib.hid (Blk.new w5 39 _)
    obtain⟨b5,hb5⟩: ∃b5,b5=w5.heap.size:=⟨_,rfl⟩
    rw[←hb5] at HBS
    rw[←hb5]
    clear hb5 z0 z4 z5 y0 y1 y2 y3 y4 y5 y6 y7 y8 y9 hw5 HBA
    generalize w5.alloc (.cells #[.int .i64 (rr.id:Int),.int .i64 (rr.n:Int),.int .i64 (rr.st:Int),.int .i64 (rr.vw:Int),.int .i64 (rr.nr:Int),.int .i64 (rr.bs:Int),.int .i64 (rr.td:Int),.int .i64 (rr.cm:Int),.int .i64 (rr.sb:Int),.int .i64 (rr.ls:Int)] 39)=w6 at*
    have s2:=HBS.out.cell 2 rfl
    have s9:=HBS.out.cell 9 rfl
    have s7:=HBS.out.cell 7 rfl
    have z4:=HM6.out.1.cell 4 rfl
    by_cases hc:rr.st=1∧m.ao≤rr.ls∧rr.cm≤last
    case pos=>
     have t3:(rr.st:Int)=1:=by omega
     have t4:(m.ao:Int)≤(rr.ls:Int):=by omega
     have t5:(rr.cm:Int)≤(last:Int):=by omega
     have HCC:=Lib.hid hc
     clear hc
     go_upto_region 35 with fail
     clear s2 s9 s7 z4 t3 t4 t5
     obtain⟨hlp7,lv7,hv7,xv7,sv7,uv7,hbp7,hrp7⟩:=HX6.out.2.2
     obtain⟨q,hq,hqc,hqo⟩: ∃q,xv7= .map (some q)∧c5 q=13+10*i∧OfM 1 c5 w6 q rr.n rr.offs:=by
      rcases hrp7.of with⟨_,h2,_⟩|h1
      ·exact absurd HCC.out.1 h2
      ·exact h1
     subst hq
     have HP7:=Lib.hid hbp7
     have HR7:=Lib.hid (And.intro hlp7 (And.intro hrp7 (And.intro hqc hqo)))
     have HM7:=Lib.hid HM6.out
     have HOWN:=Lib.hid (fun W (hb:Below w6.heap.size w6 W)=>own_any m.ops (.slice oa m.ops.length oc) W (HS6.out.below (opE_ok li) hb) (by have:=HH.out.1.op;omega))
     clear hlp7 hbp7 hrp7 hqc hqo
     refine wp_region_K (fun W=>W.cell? ⟨p,13,none⟩=some (.map (some q))∧W.cell? ⟨b3,1,none⟩=some (.int .i64 (m.fr:Int))∧W.cell? ⟨b3,3,none⟩=some (.int .i64 (m.nr:Int))∧W.cell? ⟨b3,4,none⟩=some (.int .i64 (m.ao:Int))∧W.cell? ⟨b3,6,none⟩=some (.int .i64 (m.cm:Int))∧W.cell? ⟨b3,5,none⟩=some (.slice oa m.ops.length oc)) 16 Z27 ?_ (fun hHeld1=> ?_)
     ·exact Z112
     refine tkK 0 ?_ (y:=Z1)
     try simp only[ap]
     refine tkK 1 ?_ (y:=Z1)
     try simp only[ap]
     refine tkK 2 ?_ (y:=Z1)
     try simp only[ap]
     refine tkK 3 ?_ (y:=Z1)
     try simp only[ap]
     refine tkK 4 ?_ (y:=Z1)
     try simp only[ap]
     refine tkK 5 ?_ (y:=Z1)
     try simp only[ap]
     refine tkK 6 ?_ (y:=Z1)
     try simp only[ap]
     refine tkK 7 ?_ (y:=Z1)
     try simp only[ap]
     refine tkK 8 ?_ (y:=Z1)
     try simp only[ap]
     refine tkK 9 ?_ (y:=Z1)
     try simp only[ap]
     refine tkK 10 ?_ (y:=Z1)
     try simp only[ap]
     refine tkK 11 ?_ (y:=Z1)
     try simp only[ap]
     refine tkK 12 ?_ (y:=Z1)
     try simp only[ap]
     refine tkK 13 ?_ (y:=Z1)
     try simp only[ap]
     refine wpAnyK_ready (rs:= [14]) Z27 Z93 ?_
     refine AllReadyK.cons (o:= ?oi15) ?hi15 (fun K hK=> ?hs15) AllReadyK.nil
     case hi15=>exact Z20
     exact Z191
    case neg=>
     exact Z194
   ·exact Z33
   ·have t2:(m.kd:Int)=6:=by omega
    have z0:=HM4.out.1.cell 0 rfl
    have HD:Hid (take r m=r):=Lib.hid (by unfold take;rw[if_neg (show¬m.vw<r.vw by omega)];rw[if_neg (show¬m.kd=1 by omega)];rw[if_neg (show¬m.kd=2 by omega)];rw[if_neg (show¬m.kd=3 by omega)];rw[if_neg (show¬m.kd=4 by omega)];rw[if_neg (show¬m.kd=5 by omega)];rw[if_pos (show m.kd=6 by omega)];rw[if_pos (show r.vw<m.vw by omega)])
    exact Z140
  case neg=>
   have t1: ¬(r.vw:Int)<(m.vw:Int):=by omega
   go_quiet (fail)
   clear y3 z2 t1
   have HX4:Hid (Lx w c c1∧Fr (Fi i) c w (w3.drewN nq)∧RV i c1 (w3.drewN nq) p r):=Lib.hid ⟨HX3.out.1,HX3.out.2.1.trans HX3.out.1 (Fr.of_below (below_drewN (Below.refl _ _) nq)),HX3.out.2.2.drewN nq⟩
   have HM4:Hid (Blk (w3.drewN nq) b3 37 (msC9 m (.slice oa m.ops.length oc))∧c1 b3=1):=Lib.hid ⟨HM3.out.1.drewN nq,HM3.out.2⟩
   have HS4:Hid (SlR (opE li) c1 lo (w3.drewN nq) (.slice oa m.ops.length oc) m.ops):=Lib.hid (HS3.out.keep (opE_ok li) (Lx.refl _ _) fun _ _ _=>rfl)
   generalize w3.drewN nq=w4 at*
   rcases HKD.out with hk|hk|hk|hk|hk|hk
   ·have t2:(m.kd:Int)=1:=by omega
    have HPP:=Lib.hid (prepare_any (i:=i) (lo:=lo) (li:=li) (c:=c1) (r:=r) m (.slice oa m.ops.length oc) p w4 HX4.out.2.2 HH.out.1.li HS4.out HH.out.2 HH.out.1.mb)
    have z0:=HM4.out.1.cell 0 rfl
    have z1:=HM4.out.1.cell 1 rfl
    have z2:=HM4.out.1.cell 2 rfl
    have z3:=HM4.out.1.cell 3 rfl
    have z4:=HM4.out.1.cell 4 rfl
    have z5:=HM4.out.1.cell 5 rfl
    have z6:=HM4.out.1.cell 6 rfl
    have z7:=HM4.out.1.cell 7 rfl
    have z8:=HM4.out.1.cell 8 rfl
    unfold msV at HPP
    rw[t2] at HPP
    have hea:take r m=prepare r m:=by unfold take;rw[if_neg (show¬m.vw<r.vw by omega)];rw[if_pos (show m.kd=1 by omega)];rw[if_neg (show¬r.vw<m.vw by omega)]
    have HEA:=Lib.hid hea
    clear hea
    go_wp2_with fail
    refine HPP.out.mono ?_
    exact Z216
   ·have t2:(m.kd:Int)=2:=by omega
    have HLS:=Lib.hid (leads_any (i:=i) (c:=c1) (r:=r) p w4 HX4.out.2.2 HH.out.1.li.n)
    have hea:take r m=if leads r then haveM r m else r:=by unfold take;rw[if_neg (show¬m.vw<r.vw by omega)];rw[if_neg (show¬m.kd=1 by omega)];rw[if_pos (show m.kd=2 by omega)];rw[if_neg (show¬r.vw<m.vw by omega)]
    have HEA:=Lib.hid hea
    clear hea
    have z0:=HM4.out.1.cell 0 rfl
    go_wp2_with fail
    refine HLS.out.mono ?_
    rintro e wl ⟨rfl,kl,hkl⟩
    have HXl:Hid (Fr (Fi i) c w wl∧RV i c1 wl p r∧Blk wl b3 37 (msC9 m (.slice oa m.ops.length oc))):=Lib.hid Z58
    clear hkl HLS z0
    cases hld:leads r
    case false=>
     have HD:Hid (take r m=r):=Lib.hid (by rw[HEA.out,hld];rfl)
     clear hld
     go_wp2_with fail
     go_ret
     refine⟨rfl,?_⟩
     rw[HD.out]
     exact⟨c1,HX4.out.1,HXl.out.1,HXl.out.2.1⟩
    case true=>
     have HD:Hid (take r m=haveM r m):=Lib.hid (by rw[HEA.out,hld];rfl)
     have HLD:=Lib.hid hld
     clear hld
     obtain⟨hlp,lv,hv,xv,sv,uv,hbp,hrp⟩:=HXl.out.2.1
     obtain⟨g,cap,eh,hgl,hgc⟩:=hrp.hv.form (by have h1:=HH.out.1.li.hv;have h2:=HH.out.1.li.n;show 0<r.hv.length;omega)
     subst eh
     obtain⟨vs,hvi,hvo⟩:=hrp.hv.ex
     have hfl:m.fr<r.hv.length:=by have h1:=HH.out.1.li.hv;have h2:=HH.out.1.fr.1;omega
     obtain⟨x0,hx0⟩: ∃x,r.hv[m.fr]?=some x:=⟨_,List.getElem?_eq_getElem hfl⟩
     have hxd:r.hv.getD m.fr 0=x0:=by rw[List.getD_eq_getElem?_getD,hx0];rfl
     have yg:wl.cell? ⟨g,m.fr,none⟩=some (.int .i64 (x0:Int)):=by
      have h1:=hvo.cellAt m.fr (by show m.fr<r.hv.length*1;omega)
      rw[h1,flat_nt r.hv vs hvi.1]
      exact Z128
     have fg:wl.frozen? ⟨g,m.fr,none⟩=false:=hvo.frozenAt m.fr
     have t9:(m.fr:Int)<(r.hv.length:Int):=by omega
     have y12:wl.cell? ⟨p,12,none⟩=some (.slice (some ⟨g,0,none⟩) r.hv.length cap):=hbp.cell 12 rfl
     have y9:=hbp.cell 9 rfl
     have z1:=HXl.out.2.2.cell 1 rfl
     have z8:=HXl.out.2.2.cell 8 rfl
     obtain⟨k1,hk1⟩: ∃k1,k1=min m.ls r.ls:=⟨_,rfl⟩
     obtain⟨k2,hk2⟩: ∃k2,k2=max x0 k1:=⟨_,rfl⟩
     have hmn:min (m.ls:Int) (r.ls:Int)=(k1:Int):=by omega
     have hmx:max (x0:Int) (k1:Int)=(k2:Int):=by omega
     have HKK:Hid (max (r.hv.getD m.fr 0) (min m.ls r.ls)=k2∧k1≤r.ls∧k2=max x0 k1∧r.hv.getD m.fr 0=x0):=Lib.hid ⟨by rw[hxd,←hk1,←hk2],Z11,hk2,hxd⟩
     have HPl:=Lib.hid (And.intro hlp (And.intro hbp (And.intro hrp (And.intro hgl (And.intro hgc hfl)))))
     clear hlp hbp hrp hgl hgc hvi hvo hx0 hxd hk1 hk2 hfl
     go_upto_region 30 with fail
     go_region
     have hne:p≠g:=fun e=>by have h1:=HPl.out.1;have h2:=HPl.out.2.2.2.2.1;rw[e] at h1;omega
     obtain⟨w5,hw5⟩: ∃w5,w5=(wl.setCell ⟨g,m.fr,none⟩ (.int .i64 (k2:Int))).drew:=⟨_,rfl⟩
     have hk5: ∀k,k≠g→w5.heap[k]?=wl.heap[k]?:=fun k hk=>by rw[hw5];exact set_heap_ne _ _ _ _ _ hk
     have hs5:w5.heap.size=wl.heap.size:=by rw[hw5];exact set_size _ _ _
     have HF5:Hid (Fr (Fi i) c w w5):=Lib.hid (by
      rw[hw5]
      refine HXl.out.1.trans HX4.out.1 ((Fr.set (Fr.refl _ c1 wl) ⟨g,m.fr,none⟩ (.int .i64 (k2:Int)) fun _=> ?_).drew)
      rw[show c1 (Addr.mk g m.fr none).block=12+10*i from HPl.out.2.2.2.2.1]
      unfold Fi;omega)
     obtain⟨r5,hr5⟩: ∃r5,r5= {r with hv:=r.hv.set m.fr k2}:=⟨_,rfl⟩
     have HR5:=Lib.hid hr5
     have HV5:Hid (RV i c1 w5 p r5):=Lib.hid (by
      rw[hr5]
      have hgc:=HPl.out.2.2.2.2.1
      have hg: ∀k,k<wl.heap.size→c1 k≠12+10*i→w5.heap[k]?=wl.heap[k]?:=fun k _ hk=>hk5 k fun e=>hk (e▸hgc)
      have h1:=HPl.out.2.2.1
      refine⟨HPl.out.1,lv,.slice (some ⟨g,0,none⟩) r.hv.length cap,xv,sv,uv,(hk5 p hne).trans HPl.out.2.1,⟨h1.lgK (Lx.refl _ _) fun k hk hl=>hg k hk Z11,?_,h1.of.keep (Lx.refl _ _) fun k hk hl=>hg k hk Z11,h1.svK (Lx.refl _ _) fun k hk hl=>hg k hk Z11,h1.ouK (Lx.refl _ _) fun k hk hl=>hg k hk Z11⟩⟩
      have h2:=h1.hv.setn HPl.out.2.2.2.2.2 k2
      rw[hw5]
      exact h2.keep ntE_ok (Lx.refl _ _) fun _ _ _=>rfl)
     have HCT:=Lib.hid (count_any (i:=i) (c:=c1) (r:=r5) p w5 HV5.out (by
      rw[hr5]
      have h0:=HH.out.1.li
      exact⟨h0.n,h0.id,h0.vw,h0.nr,h0.bs,h0.ls,h0.lo,by show(r.hv.set _ _).length=_;rw[List.length_set];exact h0.hv,h0.sv,h0.ou⟩) (by
      rw[hr5]
      intro k hk
      show(r.hv.set m.fr k2).getD k 0≤r.ls
      have h0:=HH.out.1.hb HLD.out k hk
      rw[List.getD_eq_getElem?_getD,List.getElem?_set]
      by_cases e:m.fr=k
      ·rw[if_pos e]
       have h1:=HKK.out
       have h2:=HH.out.1.hb HLD.out m.fr HH.out.1.fr.1
       split
       ·show k2≤r.ls
        omega
       ·show 0≤r.ls
        omega
      ·rw[if_neg e,←List.getD_eq_getElem?_getD]
       exact h0))
     rw[←hw5]
     clear hw5 hk5 hs5 hr5 hne yg fg t9 y12 y9 z1 z8 hmn hmx
     go_wp2_with fail
     refine HCT.out.mono ?_
     rintro e w9 ⟨rfl,hm9⟩
     have HD9:Hid (Mt (Fi i) i c w w9 p (take r m)):=Lib.hid (by
      have h1:haveM r m=count r5:=by unfold haveM;rw[HKK.out.1,HR5.out]
      rw[HD.out,h1]
      exact Mt.trans HX4.out.1 HF5.out hm9)
     exact Z35
   ·have t2:(m.kd:Int)=3:=by omega
    have HLR:Hid (LI r∧r.out.length≤45000):=Lib.hid ⟨HH.out.1.li,Z102⟩
    have hea:take r m=if leads r then start r [m.fr] else r:=by unfold take;rw[if_neg (show¬m.vw<r.vw by omega)];rw[if_neg (show¬m.kd=1 by omega)];rw[if_neg (show¬m.kd=2 by omega)];rw[if_pos (show m.kd=3 by omega)];rw[if_neg (show¬r.vw<m.vw by omega)]
    exact Z178
   ·have t2:(m.kd:Int)=4:=by omega
    obtain⟨rr,hrr⟩: ∃rr,rr=r:=⟨_,rfl⟩
    have hea:take r m=offerM rr m:=by rw[hrr];unfold take;rw[if_neg (show¬m.vw<r.vw by omega)];rw[if_neg (show¬m.kd=1 by omega)];rw[if_neg (show¬m.kd=2 by omega)];rw[if_neg (show¬m.kd=3 by omega)];rw[if_pos (show m.kd=4 by omega)];rw[if_neg (show¬r.vw<m.vw by omega)]
    have HEA:=Lib.hid hea
    have HRR:Hid (LI rr∧OB rr∧rr.saves.length≤41000∧rr.out.length≤41000∧rr.n=r.n∧(rr.st=1→m.ao≤rr.ls→m.ao+m.ops.length≤rr.bs+1000000)):=Lib.hid (by
     have h6:=HH.out.1.hs
     rw[hrr]
     exact⟨HH.out.1.li,HH.out.1.ob,Z11,Z11,rfl,fun _=>HH.out.1.mb.lo⟩)
    obtain⟨w5,hw5⟩: ∃w5,w5=w4:=⟨_,rfl⟩
    obtain⟨c5,hc5⟩: ∃c5,c5=c1:=⟨_,rfl⟩
    have HX5:Hid (Lx w c c5∧Fr (Fi i) c w w5∧RV i c5 w5 p rr):=Lib.hid (by rw[hw5,hc5,hrr];exact HX4.out)
    have HM5:Hid (Blk w5 b3 37 (msC9 m (.slice oa m.ops.length oc))∧c5 b3=1):=Lib.hid (by rw[hw5,hc5];exact HM4.out)
    have HS5:Hid (SlR (opE li) c5 lo w5 (.slice oa m.ops.length oc) m.ops):=Lib.hid (by rw[hw5,hc5];exact HS4.out)
    rw[←hw5]
    clear hea hrr hw5 hc5
    have z0:=HM5.out.1.cell 0 rfl
    have z4:=HM5.out.1.cell 4 rfl
    have z5:=HM5.out.1.cell 5 rfl
    obtain⟨hlp5,lv5,hv5,xv5,sv5,uv5,hbp5,hrp5⟩:=HX5.out.2.2
    have hcs:=hbp5
    unfold rpC at hcs
    have y0:=hcs.cell 0 rfl
    have y1:=hcs.cell 1 rfl
    have y2:=hcs.cell 2 rfl
    have y3:=hcs.cell 3 rfl
    have y4:=hcs.cell 4 rfl
    have y5:=hcs.cell 5 rfl
    have y6:=hcs.cell 6 rfl
    have y7:=hcs.cell 7 rfl
    have y8:=hcs.cell 8 rfl
    have y9:=hcs.cell 9 rfl
    have hpl5:p<w5.heap.size:=hbp5.lt
    have hbl5:b3<w5.heap.size:=HM5.out.1.lt
    clear hlp5 hbp5 hrp5 hcs
    obtain⟨last,hlast⟩: ∃last,last=m.ao+m.ops.length:=⟨_,rfl⟩
    have hw5:IntKind.i64.wrap ((m.ao:Int)+(m.ops.length:Int))=(last:Int):=by
     have h1:=HH.out.1.mb.ao
     have h2:=HH.out.1.op
     exact Z192
    have HLA:=Lib.hid hlast
    clear hlast
    go_upto_region 34 with fail
    have HBA:Hid (Below w5.heap.size w5 (w5.alloc (.cells #[.int .i64 (rr.id:Int),.int .i64 (rr.n:Int),.int .i64 (rr.st:Int),.int .i64 (rr.vw:Int),.int .i64 (rr.nr:Int),.int .i64 (rr.bs:Int),.int .i64 (rr.td:Int),.int .i64 (rr.cm:Int),.int .i64 (rr.sb:Int),.int .i64 (rr.ls:Int)] 39))):=Lib.hid ((Below.refl _ _).alloc (Nat.le_refl _) _)
    have HX6:Hid (Lx w c c5∧Fr (Fi i) c w (w5.alloc (.cells #[.int .i64 (rr.id:Int),.int .i64 (rr.n:Int),.int .i64 (rr.st:Int),.int .i64 (rr.vw:Int),.int .i64 (rr.nr:Int),.int .i64 (rr.bs:Int),.int .i64 (rr.td:Int),.int .i64 (rr.cm:Int),.int .i64 (rr.sb:Int),.int .i64 (rr.ls:Int)] 39))∧RV i c5 (w5.alloc (.cells #[.int .i64 (rr.id:Int),.int .i64 (rr.n:Int),.int .i64 (rr.st:Int),.int .i64 (rr.vw:Int),.int .i64 (rr.nr:Int),.int .i64 (rr.bs:Int),.int .i64 (rr.td:Int),.int .i64 (rr.cm:Int),.int .i64 (rr.sb:Int),.int .i64 (rr.ls:Int)] 39)) p rr):=Lib.hid ⟨HX5.out.1,HX5.out.2.1.trans HX5.out.1 (Fr.of_below HBA.out),HX5.out.2.2.below (Lx.refl _ _) HBA.out⟩
    have HM6:Hid (Blk (w5.alloc (.cells #[.int .i64 (rr.id:Int),.int .i64 (rr.n:Int),.int .i64 (rr.st:Int),.int .i64 (rr.vw:Int),.int .i64 (rr.nr:Int),.int .i64 (rr.bs:Int),.int .i64 (rr.td:Int),.int .i64 (rr.cm:Int),.int .i64 (rr.sb:Int),.int .i64 (rr.ls:Int)] 39)) b3 37 (msC9 m (.slice oa m.ops.length oc))∧c5 b3=1):=Lib.hid ⟨HM5.out.1.below HBA.out hbl5,HM5.out.2⟩
    have HS6:Hid (SlR (opE li) c5 lo (w5.alloc (.cells #[.int .i64 (rr.id:Int),.int .i64 (rr.n:Int),.int .i64 (rr.st:Int),.int .i64 (rr.vw:Int),.int .i64 (rr.nr:Int),.int .i64 (rr.bs:Int),.int .i64 (rr.td:Int),.int .i64 (rr.cm:Int),.int .i64 (rr.sb:Int),.int .i64 (rr.ls:Int)] 39)) (.slice oa m.ops.length oc) m.ops):=Lib.hid (HS5.out.below (opE_ok li) HBA.out)
    have HBS:Hid (Blk (w5.alloc (.cells #[.int .i64 (rr.id:Int),.int .i64 (rr.n:Int),.int .i64 (rr.st:Int),.int .i64 (rr.vw:Int),.int .i64 (rr.nr:Int),.int .i64 (rr.bs:Int),.int .i64 (rr.td:Int),.int .i64 (rr.cm:Int),.int .i64 (rr.sb:Int),.int .i64 (rr.ls:Int)] 39)) w5.heap.size 39 [.int .i64 (rr.id:Int),.int .i64 (rr.n:Int),.int .i64 (rr.st:Int),.int .i64 (rr.vw:Int),.int .i64 (rr.nr:Int),.int .i64 (rr.bs:Int),.int .i64 (rr.td:Int),.int .i64 (rr.cm:Int),.int .i64 (rr.sb:Int),.int .i64 (rr.ls:Int)]):=Lib.hid (Blk.new w5 39 _)
    obtain⟨b5,hb5⟩: ∃b5,b5=w5.heap.size:=⟨_,rfl⟩
    rw[←hb5] at HBS
    rw[←hb5]
    clear hb5 z0 z4 z5 y0 y1 y2 y3 y4 y5 y6 y7 y8 y9 hw5 HBA
    generalize w5.alloc (.cells #[.int .i64 (rr.id:Int),.int .i64 (rr.n:Int),.int .i64 (rr.st:Int),.int .i64 (rr.vw:Int),.int .i64 (rr.nr:Int),.int .i64 (rr.bs:Int),.int .i64 (rr.td:Int),.int .i64 (rr.cm:Int),.int .i64 (rr.sb:Int),.int .i64 (rr.ls:Int)] 39)=w6 at*
    have s2:=HBS.out.cell 2 rfl
    have s9:=HBS.out.cell 9 rfl
    have s7:=HBS.out.cell 7 rfl
    have z4:=HM6.out.1.cell 4 rfl
    by_cases hc:rr.st=1∧m.ao≤rr.ls∧rr.cm≤last
    case pos=>
     have t3:(rr.st:Int)=1:=by omega
     have t4:(m.ao:Int)≤(rr.ls:Int):=by omega
     have t5:(rr.cm:Int)≤(last:Int):=by omega
     have HCC:=Lib.hid hc
     clear hc
     go_upto_region 35 with fail
     clear s2 s9 s7 z4 t3 t4 t5
     obtain⟨hlp7,lv7,hv7,xv7,sv7,uv7,hbp7,hrp7⟩:=HX6.out.2.2
     obtain⟨q,hq,hqc,hqo⟩: ∃q,xv7= .map (some q)∧c5 q=13+10*i∧OfM 1 c5 w6 q rr.n rr.offs:=by
      rcases hrp7.of with⟨_,h2,_⟩|h1
      ·exact absurd HCC.out.1 h2
      ·exact h1
     subst hq
     have HP7:=Lib.hid hbp7
     have HR7:=Lib.hid (And.intro hlp7 (And.intro hrp7 (And.intro hqc hqo)))
     have HM7:=Lib.hid HM6.out
     have HOWN:=Lib.hid (fun W (hb:Below w6.heap.size w6 W)=>own_any m.ops (.slice oa m.ops.length oc) W (HS6.out.below (opE_ok li) hb) (by have:=HH.out.1.op;omega))
     clear hlp7 hbp7 hrp7 hqc hqo
     refine wp_region_K (fun W=>W.cell? ⟨p,13,none⟩=some (.map (some q))∧W.cell? ⟨b3,1,none⟩=some (.int .i64 (m.fr:Int))∧W.cell? ⟨b3,3,none⟩=some (.int .i64 (m.nr:Int))∧W.cell? ⟨b3,4,none⟩=some (.int .i64 (m.ao:Int))∧W.cell? ⟨b3,6,none⟩=some (.int .i64 (m.cm:Int))∧W.cell? ⟨b3,5,none⟩=some (.slice oa m.ops.length oc)) 16 Z27 ?_ (fun hHeld1=> ?_)
     ·exact Z112
     refine tkK 0 ?_ (y:=Z1)
     try simp only[ap]
     refine tkK 1 ?_ (y:=Z1)
     try simp only[ap]
     refine tkK 2 ?_ (y:=Z1)
     try simp only[ap]
     refine tkK 3 ?_ (y:=Z1)
     try simp only[ap]
     refine tkK 4 ?_ (y:=Z1)
     try simp only[ap]
     refine tkK 5 ?_ (y:=Z1)
     try simp only[ap]
     refine tkK 6 ?_ (y:=Z1)
     try simp only[ap]
     refine tkK 7 ?_ (y:=Z1)
     try simp only[ap]
     refine tkK 8 ?_ (y:=Z1)
     try simp only[ap]
     refine tkK 9 ?_ (y:=Z1)
     try simp only[ap]
     refine tkK 10 ?_ (y:=Z1)
     try simp only[ap]
     refine tkK 11 ?_ (y:=Z1)
     try simp only[ap]
     refine tkK 12 ?_ (y:=Z1)
     try simp only[ap]
     refine tkK 13 ?_ (y:=Z1)
     try simp only[ap]
     refine wpAnyK_ready (rs:= [14]) Z27 Z93 ?_
     refine AllReadyK.cons (o:= ?oi31) ?hi31 (fun K hK=> ?hs31) AllReadyK.nil
     case hi31=>exact Z20
     exact Z191
    case neg=>
     exact Z194
   ·exact Z33
   ·have t2:(m.kd:Int)=6:=by omega
    have HLR:Hid (LI r∧r.out.length≤45000):=Lib.hid ⟨HH.out.1.li,Z102⟩
    have hea:take r m=if leads r then start r [m.fr] else r:=by unfold take;rw[if_neg (show¬m.vw<r.vw by omega)];rw[if_neg (show¬m.kd=1 by omega)];rw[if_neg (show¬m.kd=2 by omega)];rw[if_neg (show¬m.kd=3 by omega)];rw[if_neg (show¬m.kd=4 by omega)];rw[if_neg (show¬m.kd=5 by omega)];rw[if_pos (show m.kd=6 by omega)];rw[if_neg (show¬r.vw<m.vw by omega)]
    exact Z178
end Go.Proofs.YtdmjegelcdghlaaGreat.Vw
