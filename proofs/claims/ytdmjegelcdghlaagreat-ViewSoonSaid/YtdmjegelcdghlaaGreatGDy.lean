/-
  Chapter 22: ask.
-/
import Derived.Test.YtdmjegelcdghlaaGreatGGen
import Derived.Test.YtdmjegelcdghlaaGreatGDs
import Derived.Test.YtdmjegelcdghlaaGreatGDv
set_option maxRecDepth 100000
set_option maxHeartbeats 64000000
set_option linter.unusedVariables false
set_option linter.unusedSimpArgs false
namespace Go.Proofs.YtdmjegelcdghlaaGreat
theorem Z234 {p:Prop}(h:p:=by
 have h1:=HH.out.2.1.ls
 have h2:=HH.out.2.1.lo
 exact Z192):p:=h
end Go.Proofs.YtdmjegelcdghlaaGreat
namespace Go.Proofs.YtdmjegelcdghlaaGreat.Vw
open Go.RowKit Go.Maps
def HB (r:Rp Op):Prop:= ∀k,k<r.n→r.hv.getD k 0≤r.ls
theorem LI.save {r:Rp Op}(h:LI r)(a:Nat)(hs:r.saves.length+1≤50000):LI (save r a):=
 ⟨h.n,h.id,h.vw,h.nr,h.bs,h.ls,h.lo,h.hv,by show(r.saves++ [_]).length≤_;rw[List.length_append];exact hs,h.ou⟩
theorem LI.count {r:Rp Op}(h:LI r):LI (count r):=by
 have h1:=most_le (r.hv.set r.id r.ls) r.n (r.n/2+1) r.ls
 refine⟨h.n,h.id,h.vw,h.nr,⟨h.bs.1,?_,?_,?_⟩,h.ls,h.lo,by show(r.hv.set _ _).length=_;rw[List.length_set];exact h.hv,h.sv,h.ou⟩
 ·exact Nat.le_trans h.bs.2.1 (Nat.le_max_left _ _)
 ·exact Nat.max_le.2 ⟨h.bs.2.2.1,h1⟩
 ·exact Nat.max_le.2 ⟨Nat.le_trans h.bs.2.2.2 (Nat.le_max_left _ _),Nat.min_le_right _ _⟩
theorem HB.count {r:Rp Op}(h:HB r):HB (count r):=by
 intro k hk
 show(r.hv.set r.id r.ls).getD k 0≤r.ls
 rw[List.getD_eq_getElem?_getD,List.getElem?_set]
 by_cases e:r.id=k
 ·rw[if_pos e]
  split<;>simp
 ·rw[if_neg e]
  have:=h k hk
  rw[List.getD_eq_getElem?_getD] at this
  exact this
theorem ask_any {i li:Nat}{c:Lb}{r:Rp Op}(o:Op)(u:Value)(p:Nat)(w:World)(h:RV i c w p r)(hl:LI r)(hb:leads r=true→HB r)(hu:TxA li c w u o)(hs:r.saves.length≤49000):
 Calls Tryz.prog 11 #[.pointer (some ⟨p,0,none⟩),opV o u] w fun e w'=>e= .returned (.tuple #[.int .i64 (if askE mayO r o=0 then((r.ls+1:Nat):Int) else 0),.int .i64 (askE mayO r o:Int)])∧Mt (Fi i) i c w w' p (if askE mayO r o=0 then ask r o else r):=by
 obtain⟨lv,hv,xv,sv,uv,hbp,hrp⟩:=h.ex
 obtain⟨ua,uc,eu⟩:=hu.rd.1.slice
 subst eu
 obtain⟨la,lc,el⟩:=hrp.lg.slice
 subst el
 have HH:=Lib.hid (And.intro h (And.intro hl (And.intro hb (And.intro hu hs))))
 have HP:=Lib.hid (And.intro hbp hrp)
 have HM:=Lib.hid (fun W (hb:Below w.heap.size w W)=>mayO_any o (.slice ua o.c.sco.length uc) W (rdS_low hu.rd fun h0 g hg hlt=>hb.block g hlt) hu.ok)
 have HL:=Lib.hid (fun W (hb:Below w.heap.size w W)=>leads_any p W (h.below (Lx.refl _ _) hb) hl.n)
 clear h hl hb hu hs hbp hrp
 obtain⟨R,hR⟩: ∃R,R=(if askE mayO r o=0 then ask r o else r):=⟨_,rfl⟩
 obtain⟨N,hN⟩: ∃N:Int,N=(if askE mayO r o=0 then((r.ls+1:Nat):Int) else 0):=⟨_,rfl⟩
 obtain⟨E,hE⟩: ∃E:Int,E=(askE mayO r o:Int):=⟨_,rfl⟩
 rw[←hR,←hN,←hE]
 have HERN:=Lib.hid (And.intro hE (And.intro hN hR))
 clear hE hN hR
 unfold opV at HM⊢
 go_enter Tryz.func11,Tryz.ntmps11
 go_upto_region 3 with fail
 obtain⟨w1,hw1⟩: ∃w1,w1=w.alloc (.cells #[.int .i64 o.ed,.int .i64 o.sq,.int .i64 o.lo,.int .i64 o.c.kd,.string ⟨o.c.fam.toArray⟩,.int .i64 o.c.ser,.int .i64 o.c.tok,.string ⟨o.c.cli.toArray⟩,.string ⟨o.c.usr.toArray⟩,.slice ua o.c.sco.length uc,.string ⟨o.c.red.toArray⟩,.string ⟨o.c.cha.toArray⟩,.string ⟨o.c.met.toArray⟩,.string ⟨o.c.ver.toArray⟩,.bool o.c.rf,.int .i64 o.c.edg] 26):=⟨_,rfl⟩
 obtain⟨b3,hb3⟩: ∃b3,b3=w.heap.size:=⟨_,rfl⟩
 have HB1:Hid (Below w.heap.size w w1):=Lib.hid Z41
 have HM1:Hid (Blk w1 b3 26 [.int .i64 o.ed,.int .i64 o.sq,.int .i64 o.lo,.int .i64 o.c.kd,.string ⟨o.c.fam.toArray⟩,.int .i64 o.c.ser,.int .i64 o.c.tok,.string ⟨o.c.cli.toArray⟩,.string ⟨o.c.usr.toArray⟩,.slice ua o.c.sco.length uc,.string ⟨o.c.red.toArray⟩,.string ⟨o.c.cha.toArray⟩,.string ⟨o.c.met.toArray⟩,.string ⟨o.c.ver.toArray⟩,.bool o.c.rf,.int .i64 o.c.edg]):=Lib.hid (by rw[hw1,hb3];exact Blk.new w 26 _)
 have HB3:Hid (b3=w.heap.size):=Lib.hid hb3
 rw[←hw1,←hb3]
 clear hw1 hb3
 have q0:=HM1.out.cell 0 rfl
 have q1:=HM1.out.cell 1 rfl
 have q2:=HM1.out.cell 2 rfl
 have q3:=HM1.out.cell 3 rfl
 have q4:=HM1.out.cell 4 rfl
 have q5:=HM1.out.cell 5 rfl
 have q6:=HM1.out.cell 6 rfl
 have q7:=HM1.out.cell 7 rfl
 have q8:=HM1.out.cell 8 rfl
 have q9:=HM1.out.cell 9 rfl
 have q10:=HM1.out.cell 10 rfl
 have q11:=HM1.out.cell 11 rfl
 have q12:=HM1.out.cell 12 rfl
 have q13:=HM1.out.cell 13 rfl
 have q14:=HM1.out.cell 14 rfl
 have q15:=HM1.out.cell 15 rfl
 go_wp2_with fail
 refine(HM.out _ HB1.out).mono ?_
 rintro e w2 ⟨rfl,hb2⟩
 have HB2:=Lib.hid (HB1.out.trans (hb2.mono HB1.out.size))
 have HM2:=Lib.hid (HM1.out.below hb2 HM1.out.lt)
 clear hb2 q0 q1 q2 q3 q4 q5 q6 q7 q8 q9 q10 q11 q12 q13 q14 q15
 cases hmo:mayO o
 ·have HE:Hid (askE mayO r o=1):=Lib.hid (by unfold askE;rw[if_pos hmo])
  clear hmo
  go_wp2_with fail
  go_ret2
  have hee:=HERN.out
  rw[HE.out] at hee
  exact⟨by rw[hee.1,hee.2.1]<;>rfl,by rw[hee.2.2];exact⟨c,Lx.refl _ _,Fr.of_below HB2.out,HH.out.1.below (Lx.refl _ _) HB2.out⟩⟩
 have HMO:=Lib.hid hmo
 clear hmo
 go_wp2_with fail
 refine(HL.out _ HB2.out).mono ?_
 rintro e w3 ⟨rfl,k3,hk3⟩
 have HB3':=Lib.hid (by rw[hk3];exact below_drewN HB2.out k3:Below w.heap.size w w3)
 have HM3:Hid (Blk w3 b3 26 [.int .i64 o.ed,.int .i64 o.sq,.int .i64 o.lo,.int .i64 o.c.kd,.string ⟨o.c.fam.toArray⟩,.int .i64 o.c.ser,.int .i64 o.c.tok,.string ⟨o.c.cli.toArray⟩,.string ⟨o.c.usr.toArray⟩,.slice ua o.c.sco.length uc,.string ⟨o.c.red.toArray⟩,.string ⟨o.c.cha.toArray⟩,.string ⟨o.c.met.toArray⟩,.string ⟨o.c.ver.toArray⟩,.bool o.c.rf,.int .i64 o.c.edg]):=Lib.hid (by rw[hk3];exact HM2.out.drewN k3)
 clear hk3
 cases hld:leads r
 ·have HE:Hid (askE mayO r o=10):=Lib.hid (by unfold askE;rw[if_neg (by rw[HMO.out];simp),if_pos hld])
  clear hld
  go_wp2_with fail
  go_ret2
  have hee:=HERN.out
  rw[HE.out] at hee
  exact⟨by rw[hee.1,hee.2.1]<;>rfl,by rw[hee.2.2];exact⟨c,Lx.refl _ _,Fr.of_below HB3'.out,HH.out.1.below (Lx.refl _ _) HB3'.out⟩⟩
 have HLD:=Lib.hid hld
 clear hld
 have HP3:=Lib.hid (HP.out.1.below HB3'.out HP.out.1.lt)
 have y9:=HP3.out.cell 9 rfl
 have y5:=HP3.out.cell 5 rfl
 obtain⟨d,hd⟩: ∃d,d=r.ls-r.bs:=⟨_,rfl⟩
 have hwd:IntKind.i64.wrap ((r.ls:Int)-(r.bs:Int))=(d:Int):=by
  exact Z234
 have HD:=Lib.hid hd
 clear hd
 go_upto_region 7 with fail
 by_cases hfull:32≤d
 ·have t1:(32:Int)≤(d:Int):=by omega
  have HE:Hid (askE mayO r o=8):=Lib.hid (by unfold askE;rw[if_neg (by rw[HMO.out];simp),if_neg (by rw[HLD.out];simp),if_pos (by rw[←HD.out];exact hfull)])
  go_quiet (fail)
  go_wp2_with fail
  go_ret2
  have hee:=HERN.out
  rw[HE.out] at hee
  exact⟨by rw[hee.1,hee.2.1]<;>rfl,by rw[hee.2.2];exact⟨c,Lx.refl _ _,(Fr.of_below HB3'.out).trans (Lx.refl _ _) (Fr.of_below (below_drewN (Below.refl _ _) _)),(HH.out.1.below (Lx.refl _ _) HB3'.out).drewN _⟩⟩
 have t1: ¬(32:Int)≤(d:Int):=by omega
 have HE:Hid (askE mayO r o=0∧r.log.length<32):=Lib.hid (by
  refine⟨?_,by have h1:=HH.out.2.1.ls;have h2:=HD.out;omega⟩
  unfold askE
  rw[if_neg (by rw[HMO.out];simp),if_neg (by rw[HLD.out];simp),if_neg (by rw[←HD.out];exact hfull)])
 go_quiet (fail)
 go_upto_region 9 with fail
 clear y9 y5 hwd t1 hfull
 obtain⟨w4,hw4⟩: ∃w4,w4=w3.drewN nq:=⟨_,rfl⟩
 have HB4:Hid (Below w.heap.size w w4):=Lib.hid (by rw[hw4];exact below_drewN HB3'.out nq)
 have HM4:Hid (Blk w4 b3 26 [.int .i64 o.ed,.int .i64 o.sq,.int .i64 o.lo,.int .i64 o.c.kd,.string ⟨o.c.fam.toArray⟩,.int .i64 o.c.ser,.int .i64 o.c.tok,.string ⟨o.c.cli.toArray⟩,.string ⟨o.c.usr.toArray⟩,.slice ua o.c.sco.length uc,.string ⟨o.c.red.toArray⟩,.string ⟨o.c.cha.toArray⟩,.string ⟨o.c.met.toArray⟩,.string ⟨o.c.ver.toArray⟩,.bool o.c.rf,.int .i64 o.c.edg]):=Lib.hid (by rw[hw4];exact HM3.out.drewN nq)
 have HP4:=Lib.hid (HP.out.1.below HB4.out HP.out.1.lt)
 rw[←hw4]
 clear hw4
 obtain⟨c1,hc1⟩: ∃c1,c1=c.ext w.heap.size:=⟨_,rfl⟩
 have HC1:Hid (Lx w c c1∧ ∀k,w.heap.size≤k→c1 k=1):=Lib.hid ⟨by rw[hc1];exact c.ext_lx w,fun k hk=>by rw[hc1];exact c.ext_new hk⟩
 clear hc1
 have HOW:=Lib.hid (fun W (hb:Below w4.heap.size w4 W)=>own_any (li:=li) (lo:=1) (c:=c1) [o] (.slice (some ⟨W.heap.size,0,none⟩) 1 1) (W.alloc (.cells #[.int .i64 o.ed,.int .i64 o.sq,.int .i64 o.lo,.int .i64 o.c.kd,.string ⟨o.c.fam.toArray⟩,.int .i64 o.c.ser,.int .i64 o.c.tok,.string ⟨o.c.cli.toArray⟩,.string ⟨o.c.usr.toArray⟩,.slice ua o.c.sco.length uc,.string ⟨o.c.red.toArray⟩,.string ⟨o.c.cha.toArray⟩,.string ⟨o.c.met.toArray⟩,.string ⟨o.c.ver.toArray⟩,.bool o.c.rf,.int .i64 o.c.edg] 26)) (by
  have hbw:Below w.heap.size w (W.alloc (.cells #[.int .i64 o.ed,.int .i64 o.sq,.int .i64 o.lo,.int .i64 o.c.kd,.string ⟨o.c.fam.toArray⟩,.int .i64 o.c.ser,.int .i64 o.c.tok,.string ⟨o.c.cli.toArray⟩,.string ⟨o.c.usr.toArray⟩,.slice ua o.c.sco.length uc,.string ⟨o.c.red.toArray⟩,.string ⟨o.c.cha.toArray⟩,.string ⟨o.c.met.toArray⟩,.string ⟨o.c.ver.toArray⟩,.bool o.c.rf,.int .i64 o.c.edg] 26)):=(HB4.out.trans (hb.mono HB4.out.size)).alloc (Nat.le_trans HB4.out.size hb.size) _
  have htx:TxA li c1 (W.alloc (.cells #[.int .i64 o.ed,.int .i64 o.sq,.int .i64 o.lo,.int .i64 o.c.kd,.string ⟨o.c.fam.toArray⟩,.int .i64 o.c.ser,.int .i64 o.c.tok,.string ⟨o.c.cli.toArray⟩,.string ⟨o.c.usr.toArray⟩,.slice ua o.c.sco.length uc,.string ⟨o.c.red.toArray⟩,.string ⟨o.c.cha.toArray⟩,.string ⟨o.c.met.toArray⟩,.string ⟨o.c.ver.toArray⟩,.bool o.c.rf,.int .i64 o.c.edg] 26)) (.slice ua o.c.sco.length uc) o:=(opE_ok li).keep c c1 w _ _ o HH.out.2.2.2.1 HC1.out.1 fun k hk _=>hbw.block k hk
  refine⟨⟨[.slice ua o.c.sco.length uc],Inn.one (E:=opE li) htx,?_⟩,fun _ g hg=> ?_⟩
  ·rw[flat_single]
   exact rd_new W 16 1 [.int .i64 o.ed,.int .i64 o.sq,.int .i64 o.lo,.int .i64 o.c.kd,.string ⟨o.c.fam.toArray⟩,.int .i64 o.c.ser,.int .i64 o.c.tok,.string ⟨o.c.cli.toArray⟩,.string ⟨o.c.usr.toArray⟩,.slice ua o.c.sco.length uc,.string ⟨o.c.red.toArray⟩,.string ⟨o.c.cha.toArray⟩,.string ⟨o.c.met.toArray⟩,.string ⟨o.c.ver.toArray⟩,.bool o.c.rf,.int .i64 o.c.edg] 26 rfl
  ·cases hg
   exact HC1.out.2 _ (Nat.le_trans HB4.out.size hb.size)) (by show 1≤_;omega))
 refine wp_region_K (fun W=>Below w4.heap.size w4 W∧W.cell? ⟨p,10,none⟩=some (.slice la r.log.length lc)∧W.cell? ⟨b3,0,none⟩=some (.int .i64 o.ed)∧W.cell? ⟨b3,1,none⟩=some (.int .i64 o.sq)∧W.cell? ⟨b3,2,none⟩=some (.int .i64 o.lo)∧W.cell? ⟨b3,3,none⟩=some (.int .i64 o.c.kd)∧W.cell? ⟨b3,4,none⟩=some (.string ⟨o.c.fam.toArray⟩)∧W.cell? ⟨b3,5,none⟩=some (.int .i64 o.c.ser)∧W.cell? ⟨b3,6,none⟩=some (.int .i64 o.c.tok)∧W.cell? ⟨b3,7,none⟩=some (.string ⟨o.c.cli.toArray⟩)∧W.cell? ⟨b3,8,none⟩=some (.string ⟨o.c.usr.toArray⟩)∧W.cell? ⟨b3,9,none⟩=some (.slice ua o.c.sco.length uc)∧W.cell? ⟨b3,10,none⟩=some (.string ⟨o.c.red.toArray⟩)∧W.cell? ⟨b3,11,none⟩=some (.string ⟨o.c.cha.toArray⟩)∧W.cell? ⟨b3,12,none⟩=some (.string ⟨o.c.met.toArray⟩)∧W.cell? ⟨b3,13,none⟩=some (.string ⟨o.c.ver.toArray⟩)∧W.cell? ⟨b3,14,none⟩=some (.bool o.c.rf)∧W.cell? ⟨b3,15,none⟩=some (.int .i64 o.c.edg)) 8 Z27 ?_ (fun hHeld1=> ?_)
 ·exact⟨(Below.refl _ _).drew,HP4.out.cell 10 rfl,HM4.out.cell 0 rfl,HM4.out.cell 1 rfl,HM4.out.cell 2 rfl,HM4.out.cell 3 rfl,HM4.out.cell 4 rfl,HM4.out.cell 5 rfl,HM4.out.cell 6 rfl,HM4.out.cell 7 rfl,HM4.out.cell 8 rfl,HM4.out.cell 9 rfl,HM4.out.cell 10 rfl,HM4.out.cell 11 rfl,HM4.out.cell 12 rfl,HM4.out.cell 13 rfl,HM4.out.cell 14 rfl,HM4.out.cell 15 rfl⟩
 refine tkP 0 ?_ (y:=Z189)
 try simp only[ap]
 refine tkK 1 ?_ (y:=Z1)
 try simp only[ap]
 refine tkK 2 ?_ (y:=Z1)
 try simp only[ap]
 refine tkK 3 ?_ (y:=Z1)
 try simp only[ap]
 refine tkK 4 ?_ (y:=Z1)
 try simp only[ap]
 refine tkK 5 ?_ (y:=Z1)
 try simp only[ap]
 refine wpAnyK_ready (rs:= [6]) Z27 Z93 ?_
 refine AllReadyK.cons (o:= ?oi7) ?hi7 (fun K hK=> ?hs7) AllReadyK.nil
 case hi7=>exact Z20
 go_simp
 have HB5:=Lib.hid ((Below.refl w4.heap.size w4).drew.alloc (Nat.le_refl _) (.cells #[.int .i64 o.ed,.int .i64 o.sq,.int .i64 o.lo,.int .i64 o.c.kd,.string ⟨o.c.fam.toArray⟩,.int .i64 o.c.ser,.int .i64 o.c.tok,.string ⟨o.c.cli.toArray⟩,.string ⟨o.c.usr.toArray⟩,.slice ua o.c.sco.length uc,.string ⟨o.c.red.toArray⟩,.string ⟨o.c.cha.toArray⟩,.string ⟨o.c.met.toArray⟩,.string ⟨o.c.ver.toArray⟩,.bool o.c.rf,.int .i64 o.c.edg] 26))
 have HM5:=Lib.hid (HM4.out.below HB5.out HM4.out.lt)
 refine hK.out _ _ ?_ (fun hHeld3=> ?_)
 ·exact⟨HB5.out,(HP4.out.below HB5.out HP4.out.lt).cell 10 rfl,HM5.out.cell 0 rfl,HM5.out.cell 1 rfl,HM5.out.cell 2 rfl,HM5.out.cell 3 rfl,HM5.out.cell 4 rfl,HM5.out.cell 5 rfl,HM5.out.cell 6 rfl,HM5.out.cell 7 rfl,HM5.out.cell 8 rfl,HM5.out.cell 9 rfl,HM5.out.cell 10 rfl,HM5.out.cell 11 rfl,HM5.out.cell 12 rfl,HM5.out.cell 13 rfl,HM5.out.cell 14 rfl,HM5.out.cell 15 rfl⟩
 clear hK
 try simp only[ap]
 refine wpAnyK_ready (rs:= [7]) Z27 Z93 ?_
 refine AllReadyK.cons (o:= ?oi8) ?hi8 (fun K hK=> ?hs8) AllReadyK.nil
 case hi8=>exact Z20
 go_simp
 refine(HOW.out _ (Below.refl _ _).drew).mono ?_
 rintro e w6 ⟨v6,rfl,hnew,hb6⟩
 obtain⟨a6,q6,e6⟩:=hnew.slice
 rw[show([o]:List Op).length=1 from rfl] at e6
 subst e6
 have HB6:=Lib.hid (HB5.out.trans (hb6.mono HB5.out.size))
 have HM6:=Lib.hid (HM4.out.below HB6.out HM4.out.lt)
 have HNW:=Lib.hid hnew
 clear hb6 hnew
 go_wp2_with fail
 refine hK.out _ _ ?_ (fun hHeld2=> ?_)
 ·exact⟨HB6.out,(HP4.out.below HB6.out HP4.out.lt).cell 10 rfl,HM6.out.cell 0 rfl,HM6.out.cell 1 rfl,HM6.out.cell 2 rfl,HM6.out.cell 3 rfl,HM6.out.cell 4 rfl,HM6.out.cell 5 rfl,HM6.out.cell 6 rfl,HM6.out.cell 7 rfl,HM6.out.cell 8 rfl,HM6.out.cell 9 rfl,HM6.out.cell 10 rfl,HM6.out.cell 11 rfl,HM6.out.cell 12 rfl,HM6.out.cell 13 rfl,HM6.out.cell 14 rfl,HM6.out.cell 15 rfl⟩
 clear hK
 try simp only[ap]
 refine wpAnyK_lasts [9,10,11] Z27 Z31 Z31 ?_
 simp only[List.filterMap_cons,List.filterMap_nil,List.getElem?_toArray,List.getElem?_cons_succ,List.getElem?_cons_zero]
 clear hHeld1 hHeld2 hHeld3
 have hx3:=HNW.out.row c1 1 1
 obtain⟨c3,hc3⟩: ∃c3,c3=c1.new (w4.drew.alloc (.cells #[.int .i64 o.ed,.int .i64 o.sq,.int .i64 o.lo,.int .i64 o.c.kd,.string ⟨o.c.fam.toArray⟩,.int .i64 o.c.ser,.int .i64 o.c.tok,.string ⟨o.c.cli.toArray⟩,.string ⟨o.c.usr.toArray⟩,.slice ua o.c.sco.length uc,.string ⟨o.c.red.toArray⟩,.string ⟨o.c.cha.toArray⟩,.string ⟨o.c.met.toArray⟩,.string ⟨o.c.ver.toArray⟩,.bool o.c.rf,.int .i64 o.c.edg] 26)).heap.size (.slice a6 1 q6) 1 1:=⟨_,rfl⟩
 rw[←hc3] at hx3
 have hlx3:Lx w4 c1 c3:=fun k hk=>hx3.1 k (Nat.lt_of_lt_of_le hk HB5.out.size)
 have hpt:=HP4.out.lt
 have hlx03:Lx w c c3:=HC1.out.1.trans hlx3 HB4.out.size
 have hc3p:c3 p=10+10*i:=(hlx03 p HP.out.1.lt).trans HH.out.1.lb
 have hb06:Below w.heap.size w w6:=HB4.out.trans (HB6.out.mono HB4.out.size)
 have happ:=RV.app_lg (q:=r) hc3p (HP4.out.below HB6.out hpt) (HP.out.2.below hlx03 hb06) hx3.2.sl.ex (by have h1:=HE.out.2;show r.log.length+1≤_;omega)
 obtain⟨v7,w7,hrun,⟨a7,q7,e7⟩,y10,f10,c5,hx5,hf5,hv5,-,-⟩:=happ
 obtain⟨n7,hn7⟩: ∃n7,n7=r.log.length+([o]:List Op).length:=⟨_,rfl⟩
 rw[←hn7] at e7
 clear hn7
 subst e7
 have HRUN:=Lib.hid hrun
 have HV7:=Lib.hid hv5
 have HX7:Hid (Lx w c c5∧Fr (Fi i) c w (w7.setCell ⟨p,10,none⟩ (.slice a7 n7 q7))):=Lib.hid
  ⟨hlx03.trans hx5 hb06.size,(Fr.of_below hb06).trans hlx03 (hf5.mono fun l hl=>by unfold Fi;omega)⟩
 clear hc3 hx3 hlx3 hpt hlx03 hc3p hb06 hrun hx5 hf5 hv5
 refine wpList_execA rfl (execA (.tmp 34) (.tmp 37) 35 rfl rfl rfl HRUN.out) ?_
 try simp only[ap]
 refine wpList_step fun K hK=> ?_
 rw[if_pos Z31]
 go_simp
 refine hK _ _ ?_
 clear hK
 try simp only[ap]
 refine wpList_step fun K hK=> ?_
 rw[if_pos Z31]
 go_simp
 refine hK _ _ ?_
 clear hK
 try simp only[ap]
 refine wpList_step fun K hK=> ?_
 rw[if_pos Z31]
 go_simp
 refine hK _ _ ?_
 clear hK
 try simp only[ap]
 clear y10 f10 HRUN
 go_upto_region 10 with fail
 generalize w7.setCell ⟨p,10,none⟩ (.slice a7 n7 q7)=w8 at*
 obtain⟨hlp8,lv8,hv8,xv8,sv8,uv8,hb8,hr8⟩:=HV7.out
 have y9:w8.cell? ⟨p,9,none⟩=some (.int .i64 (r.ls:Int)):=hb8.cell 9 rfl
 have f9:=hb8.frozen 9
 obtain⟨ls1,hls1⟩: ∃ls1,ls1=r.ls+1:=⟨_,rfl⟩
 have hw1:IntKind.i64.wrap ((r.ls:Int)+1)=(ls1:Int):=by
  exact Z234
 have hw2:IntKind.i64.wrap ((ls1:Int)-1)=(r.ls:Int):=by
  exact Z234
 have HLS:=Lib.hid hls1
 obtain⟨w9,hw9⟩: ∃w9,w9=w8.setCell ⟨p,9,none⟩ (.int .i64 (ls1:Int)):=⟨_,rfl⟩
 have hps9:Ps p w8 w9:=by rw[hw9];exact(Ps.refl p w8).set _ _
 have hB9:Blk w9 p 94 (rpC {r with log:=r.log++ [o],ls:=ls1} lv8 hv8 xv8 sv8 uv8):=by rw[hw9];exact hb8.set 9 _
 have HV9:Hid (RV i c5 w9 p (ask1 r o)):=Lib.hid (by
  have h1:=hr8.ps hlp8 hps9
  rw[show ask1 r o= {r with log:=r.log++ [o],ls:=ls1} from by rw[HLS.out];rfl]
  exact⟨hlp8,lv8,hv8,xv8,sv8,uv8,hB9,⟨h1.lg,h1.hv,h1.of,h1.sv,h1.ou⟩⟩)
 have HX9:Hid (Lx w c c5∧Fr (Fi i) c w w9):=Lib.hid ⟨HX7.out.1,HX7.out.2.trans HX7.out.1 (hps9.fr (by rw[hlp8];exact Fi_0 i))⟩
 have HY9:Hid (w9.cell? ⟨p,9,none⟩=some (.int .i64 (ls1:Int))):=Lib.hid (hB9.cell 9 rfl)
 have HLI:Hid (LI (ask1 r o)):=Lib.hid (by
  have h0:=HH.out.2.1
  have h1:=HE.out.2
  have hll:(r.log++ [o]).length=r.log.length+1:=by rw[List.length_append];rfl
  refine⟨h0.n,h0.id,h0.vw,h0.nr,⟨h0.bs.1,h0.bs.2.1,?_,h0.bs.2.2.2⟩,?_,⟨?_,h0.lo.2⟩,h0.hv,h0.sv,h0.ou⟩
  ·show r.cm≤r.ls+1
   have:=h0.bs.2.2.1;omega
  ·show r.ls+1=r.bs+(r.log++ [o]).length
   have:=h0.ls;omega
  ·show(r.log++ [o]).length≤_
   omega)
 have HSV:=Lib.hid (save_any (i:=i) (c:=c5) (r:=ask1 r o) r.ls p w9 HV9.out HLI.out ⟨by show r.bs≤r.ls;have:=HH.out.2.1.ls;omega,by show r.ls≤r.ls+1;omega⟩)
 clear hls1 hlp8 hb8 hr8 hps9 hB9
 go_upto_region 11 with fail
 rw[←hw9]
 clear hw9 y9 f9 hw1
 have y9:=HY9.out
 go_wp2_with fail
 refine HSV.out.mono ?_
 rintro e w10 ⟨rfl,c10,hx10,hf10,hv10⟩
 have HX10:Hid (Lx w c c10∧Fr (Fi i) c w w10):=Lib.hid ⟨HX9.out.1.trans hx10 HX9.out.2.size,HX9.out.2.trans HX9.out.1 (hf10.mono fun l hl=>by unfold Fi;omega)⟩
 have HLI2:Hid (LI (save (ask1 r o) r.ls)):=Lib.hid (HLI.out.save r.ls (by have:=HH.out.2.2.2.2;show r.saves.length+1≤_;omega))
 have HHB2:Hid (HB (save (ask1 r o) r.ls)):=Lib.hid fun k hk=>Nat.le_succ_of_le (HH.out.2.2.1 HLD.out k hk)
 have HCT:=Lib.hid (count_any (i:=i) (c:=c10) (r:=save (ask1 r o) r.ls) p w10 hv10 HLI2.out HHB2.out)
 clear y9 hw2 hx10 hf10 hv10
 go_wp2_with fail
 refine HCT.out.mono ?_
 rintro e w11 ⟨rfl,c11,hx11,hf11,hv11⟩
 have HX11:Hid (Lx w c c11∧Fr (Fi i) c w w11):=Lib.hid ⟨HX10.out.1.trans hx11 HX10.out.2.size,HX10.out.2.trans HX10.out.1 hf11⟩
 have HTL:=Lib.hid (tell_any (i:=i) (c:=c11) (r:=count (save (ask1 r o) r.ls)) p w11 hv11 HLI2.out.count HHB2.out.count)
 clear hx11 hf11 hv11
 go_wp2_with fail
 refine HTL.out.mono ?_
 rintro e w12 ⟨rfl,c12,hx12,hf12,hv12⟩
 have HX12:Hid (Lx w c c12∧Fr (Fi i) c w w12∧RV i c12 w12 p (ask r o)):=Lib.hid ⟨HX11.out.1.trans hx12 HX11.out.2.size,HX11.out.2.trans HX11.out.1 (hf12.mono fun l=>Gi_Fi),hv12⟩
 have y9:w12.cell? ⟨p,9,none⟩=some (.int .i64 (ls1:Int)):=by
  obtain⟨o',ho,_⟩:=tellN_out (count (save (ask1 r o) r.ls)) (count (save (ask1 r o) r.ls)).n
  have h1:tell (count (save (ask1 r o) r.ls))= {count (save (ask1 r o) r.ls) with out:=o'}:=ho
  rw[h1] at hv12
  obtain⟨_,_,_,_,_,_,h2,_⟩:=hv12
  rw[HLS.out]
  exact h2.cell 9 rfl
 clear hx12 hf12 hv12
 go_wp2_with fail
 go_ret2
 have hee:=HERN.out
 rw[HE.out.1] at hee
 exact⟨by rw[hee.1,hee.2.1,HLS.out]<;>rfl,by rw[hee.2.2];exact⟨c12,HX12.out.1,HX12.out.2.1,HX12.out.2.2⟩⟩
end Go.Proofs.YtdmjegelcdghlaaGreat.Vw
