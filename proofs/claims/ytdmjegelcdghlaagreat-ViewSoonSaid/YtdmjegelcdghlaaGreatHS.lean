/-
  ViewSoon: the row 'ViewSoonSaid' is proved: for every input the call returns true and each argument reads as it did.
-/
import Derived.Test.YtdmjegelcdghlaaGreatGGen
import Derived.Test.YtdmjegelcdghlaaGreatGKw
import Derived.Test.YtdmjegelcdghlaaGreatGIr
import Derived.Test.YtdmjegelcdghlaaGreatGLb
import Derived.Test.YtdmjegelcdghlaaGreatGDy
import Derived.Test.YtdmjegelcdghlaaGreatGRh
import Derived.Test.YtdmjegelcdghlaaGreatGRi
import Derived.Test.YtdmjegelcdghlaaGreatGIh
import Derived.Deep.MidRow
import Derived.Test.YtdmjegelcdghlaaGreatGKk
import Derived.Deep.CutRange
import Derived.Test.YtdmjegelcdghlaaGreatGLift
set_option maxRecDepth 100000
set_option maxHeartbeats 64000000
set_option linter.unusedVariables false
set_option linter.unusedSimpArgs false
namespace Go.Proofs.YtdmjegelcdghlaaGreat
theorem YS13 {p:Prop}(h:p:=by have:=hm.s;rw[h0.1] at this;simp at this;omega):p:=h
theorem YS12 {p:Prop}(h:p:=by have:=hm.o;rw[h0.2.1] at this;simp at this;omega):p:=h
theorem YS11 {p:Prop}(h:p:=by(simp only[List.getElem?_toArray,List.getElem?_cons_succ,List.getElem?_cons_zero];rfl)):p:=h
theorem YS6 {p:Prop}(h:p:=by kernel_rfl):p:=h
theorem YS5 {p:Prop}(h:p:=by omega):p:=h
theorem YS3 {p:Prop}(h:p:=by refine Or.inl ⟨by rfl,?_⟩;intro W hSw;(try dsimp only at hSw);(have q0:=hSw.out.1;have q1:=hSw.out.2.1;have z0:=hSw.out.2.2.cell 0 rfl;clear hSw);go_simp;(try with_reducible rfl)):p:=h
theorem YS2 {p:Prop}(h:p:=by refine Or.inl ⟨by rfl,?_⟩;intro W hSw;(try dsimp only at hSw);(clear hSw);go_simp;(try with_reducible rfl)):p:=h
end Go.Proofs.YtdmjegelcdghlaaGreat
namespace Go.Proofs.YtdmjegelcdghlaaGreat.Vw
open Go.RowKit Go.Maps
variable {N B:Nat} {h:Gh Op} {g:Gp Op}
structure RD (N B:Nat)(h:Gh Op)(g:Gp Op):Prop where
 gi:GI mayO N h g
 n:1≤g.n∧g.n≤5
 N:N≤1000
 sv: ∀i,i<g.n→(g.saves i).length≤B
 wy:g.way.length≤B
 id: ∀i,i<g.n→(g.r i).idle≤B
structure RS (N B:Nat)(h' h:Gh Op)(g:Gp Op)(i:Nat)(r':Rp Op):Prop where
 pre:Pre mayO N h' {g with r:=upd g.r i r'} i
 sz:r'.saves.length≤50000∧r'.out.length≤50000
 di:RD N (B+50) h' (g.now i r')
 gon:Gon g.n h h' g (g.now i r')
theorem now_sv (g:Gp Op)(i:Nat)(r:Rp Op):(g.now i r).saves=upd g.saves i (g.saves i++r.saves):=by
 show upd g.saves i (g.saves i++(upd g.r i r i).saves)=_
 rw[upd_same]
theorem RD.step {i N':Nat}{r':Rp Op}(D:RD N B h g)(hi:i<g.n)(hN:N'≤1000)(s:St g.n mayO N' h g.r g.kept g.saves i r')(ht:r'.td=(g.r i).td)(hs:r'.saves.length≤50)(ho:r'.out.length≤50)(hid:r'.idle≤(g.r i).idle+1): ∃h',RS N' B h' h g i r':=by
 obtain⟨h',e1,v,p⟩:=D.gi.pre hi s ht
 have G':GI mayO N' h' (g.now i r'):=p.settle hi
 refine⟨h',p,⟨YS5,YS5⟩,⟨G',D.n,hN,fun k hk=> ?_,?_,fun k hk=> ?_⟩,rfl,e1,fun k hk=> ?_⟩
 ·rw[now_sv]
  have h1:=D.sv k hk
  by_cases ek:k=i
  ·rw[ek,upd_same,List.length_append];rw[ek] at h1;omega
  ·rw[upd_ne _ _ ek];omega
 ·rw[now_way,List.length_append]
  have:=D.wy
  omega
 ·rw[now_r]
  have h1:=D.id k hk
  by_cases ek:k=i
  ·rw[ek,upd_same];rw[ek] at h1;show r'.idle≤_;omega
  ·rw[upd_ne _ _ ek];omega
 ·rw[now_vw]
  by_cases ek:k=i
  ·rw[ek,upd_same];exact v
  ·rw[upd_ne _ _ ek];exact Nat.le_refl _
theorem RD.tick (D:RD N B h g){i:Nat}(hi:i<g.n): ∃h',RS N B h' h g i (Vw.tick (g.r i)):=by
 have hTM:TM=1099511627776:=rfl
 have hN:=D.N
 have hrn:(g.r i).n≤5:=by rw[(D.gi.rep hi).nn];exact D.n.2
 have h0:=D.gi.em i hi
 have hm:=mo_tick (g.r i)
 exact D.step hi D.N (D.gi.al.p_tick YS5 hi) (tick_td _) YS13 YS12 (tick_idle _)
theorem RD.out (D:RD N B h g)(k:Nat):RD N B h (wayOut g k):=⟨D.gi.drop k,D.n,D.N,D.sv,by
 show(g.way.take k++g.way.drop (k+1)).length≤_
 rw[List.length_append,List.length_take,List.length_drop]
 have:=D.wy
 omega,D.id⟩
theorem RD.take (D:RD N B h g){x:Sd Op}{l:List (Sd Op)}(hw:g.way=x::l):x.to<g.n∧TB (g.r x.to) x.m∧ ∃h',RS N B h' h (wayOut g 0) x.to (Vw.take (g.r x.to) x.m):=by
 have hTM:TM=1099511627776:=rfl
 have hN:=D.N
 have hx:x∈g.way:=by rw[hw];exact List.mem_cons_self
 have X:=D.gi.wy x hx
 have hi:=X.to
 have hrn:(g.r x.to).n≤5:=by rw[(D.gi.rep hi).nn];exact D.n.2
 have h0:=D.gi.em x.to hi
 have hm:=mo_take (g.r x.to) x.m
 refine⟨hi,D.gi.tb D.N (by have:=D.n;omega) hx,?_⟩
 exact(D.out 0).step hi D.N ((D.gi.drop 0).al.p_take YS5 hi X rfl) (take_td _ _) YS13 YS12 (Nat.le_succ_of_le (take_idle _ _))
theorem RD.up (D:RD N B h g){B':Nat}(hB:B≤B'):RD N B' h g:=⟨D.gi,D.n,D.N,fun i hi=>Nat.le_trans (D.sv i hi) hB,Nat.le_trans D.wy hB,fun i hi=>Nat.le_trans (D.id i hi) hB⟩
structure R1 (N B:Nat)(c:Lb)(w W:World)(gp i:Nat)(g0:Gp Op)(h0:Gh Op)(c1:Lb)(h1:Gh Op):Prop where
 lx:Lx w c c1
 fr:Fr Fg c w W
 v:GV c1 W gp (tickTo i g0)
 d:RD N (B+50*i) h1 (tickTo i g0)
 g:Gon g0.n h0 h1 g0 (tickTo i g0)
structure R2 (N B:Nat)(c:Lb)(w W:World)(gp k:Nat)(g0:Gp Op)(h0:Gh Op)(c1:Lb)(h1:Gh Op)(g1:Gp Op):Prop where
 lx:Lx w c c1
 fr:Fr Fg c w W
 v:GV c1 W gp g1
 d:RD N (B+250+50*k) h1 g1
 g:Gon g0.n h0 h1 g0 g1
 e:drain (30000-k) g1=Vw.round g0
 n:g1.n=g0.n
theorem R1.next {c:Lb}{w W W':World}{gp i:Nat}{h0:Gh Op}{c1:Lb}{h1 h2:Gh Op}(R:R1 N B c w W gp i g h0 c1 h1)(S:RS N (B+50*i) h2 h1 (tickTo i g) i (Vw.tick ((tickTo i g).r i)))(hm:Mg c1 W W' gp ((tickTo i g).now i (Vw.tick ((tickTo i g).r i)))): ∃c2,R1 N B c w W' gp (i+1) g h0 c2 h2:=by
 obtain⟨c2,hx,hf,hv⟩:=hm
 have hg:=S.gon
 rw[tickTo_n] at hg
 exact⟨c2,R.lx.trans hx R.fr.size,R.fr.trans R.lx hf,hv,by have:=S.di;rw[show B+50*(i+1)=B+50*i+50 by omega];exact this,R.g.trans hg⟩
theorem R1.r2 {c:Lb}{w W:World}{gp:Nat}{h0:Gh Op}{c1:Lb}{h1:Gh Op}(R:R1 N B c w W gp g.n g h0 c1 h1):R2 N B c w W gp 0 g h0 c1 h1 (tickTo g.n g):=
 ⟨R.lx,R.fr,R.v,R.d.up (by have:=R.d.n.2;rw[tickTo_n] at this;omega),R.g,rfl,tickTo_n _ _⟩
theorem R2.next {c:Lb}{w W W':World}{gp k:Nat}{h0:Gh Op}{c1:Lb}{h1 h2:Gh Op}{g1:Gp Op}{x:Sd Op}{l:List (Sd Op)}(R:R2 N B c w W gp k g h0 c1 h1 g1)(hk:k<30000)(hw:g1.way=x::l)(S:RS N (B+250+50*k) h2 h1 (wayOut g1 0) x.to (Vw.take (g1.r x.to) x.m))(hm:Mg c1 W W' gp ((wayOut g1 0).now x.to (Vw.take (g1.r x.to) x.m))): ∃c2,R2 N B c w W' gp (k+1) g h0 c2 h2 (evTake g1 0 x):=by
 obtain⟨c2,hx,hf,hv⟩:=hm
 have hg:Gon g1.n h1 h2 g1 (evTake g1 0 x):=⟨S.gon.nn,S.gon.ee,S.gon.vv⟩
 rw[R.n] at hg
 refine⟨c2,R.lx.trans hx R.fr.size,R.fr.trans R.lx hf,hv,by have:=S.di;rw[show B+250+50*(k+1)=B+250+50*k+50 by omega];exact this,R.g.trans hg,?_,R.n⟩
 have h1:=R.e
 rw[show 30000-k=(30000-(k+1))+1 by omega,drain_cons _ hw] at h1
 exact h1
theorem R2.fin {c:Lb}{w W:World}{gp k:Nat}{h0:Gh Op}{c1:Lb}{h1:Gh Op}{g1:Gp Op}(R:R2 N B c w W gp k g h0 c1 h1 g1)(hk:k≤30000)(he:k=30000∨g1.way= []):g1=Vw.round g∧RD N (B+1600000) h1 g1:=by
 refine⟨?_,R.d.up YS5⟩
 rw[←R.e]
 rcases he with he|he
 ·rw[he];rfl
 ·rw[drain_nil _ he]
theorem round_any {c:Lb}{gp:Nat}(w:World)(hgv:GV c w gp g)(D:RD N B h g)(hB:B≤90000000)(hwy:(Vw.round g).way= []):
 Calls Tryz.prog 27 #[.pointer (some ⟨gp,0,none⟩)] w fun e w'=>e= .returned (.bool true)∧Mg c w w' gp (Vw.round g)∧ ∃h',RD N (B+1600000) h' (Vw.round g)∧Gon g.n h h' g (Vw.round g):=by
 have HH:=Lib.hid (And.intro D (And.intro hB hwy))
 have HR0:=Lib.hid (show R1 N B c w w gp 0 g h c h from⟨Lx.refl _ _,Fr.refl _ _ _,hgv,D,Gon.refl _ _ _ _ rfl rfl⟩)
 clear hgv D hB hwy
 go_enter Tryz.func27,Tryz.ntmps27
 go_wp2_with fail
 go_loopw [3] (fun iv wr=> ∃i:Nat,i≤g.n∧iv= .int .i64 (i:Int)∧ ∃c1 h1,R1 N B c w wr gp i g h c1 h1) (fun iv _=>g.n-(intOf iv).toNat)
 case atStart=>exact⟨0,Nat.zero_le _,rfl,_,_,HR0.out⟩
 case round=>
  obtain⟨i,hin,rfl,c1,h1,hr1⟩:=hrel
  have HR:=Lib.hid hr1
  have HIN:=Lib.hid hin
  clear hr1 hin HR0
  obtain⟨ps,br,cr,bk,ck,bs,cs,wv,bt,ct,ov,ss,hB,hG,hL,-⟩:=HR.out.v.opn HR.out.d.n.1
  have y0:=hB.cell 0 rfl
  rw[tickTo_n] at y0
  by_cases hi:i<g.n
  case pos=>
   have t1:(i:Int)<(g.n:Int):=by omega
   have hi':i<(tickTo i g).n:=by rw[tickTo_n];exact hi
   obtain⟨x1,_,_,_,_,_⟩:=hG.cells hi'
   have HG:=Lib.hid (And.intro hB (And.intro hG (And.intro hL hi)))
   obtain⟨h2,hrs⟩:=HR.out.d.tick hi'
   have HRS:=Lib.hid hrs
   have HTK:=Lib.hid (tick_any (i:=i) (ps i) wr (hG.rp i hi') (HR.out.d.gi.li HR.out.d.N (by have:=HR.out.d.n;omega) hi') (HR.out.d.gi.hbr hi') (by have h1:=HR.out.d.id i hi';have h2:=HH.out.2.1;have h4:=HIN.out;have h5:=HH.out.1.n.2;have h3:TM=1099511627776:=rfl;omega) (by rw[(HR.out.d.gi.em i hi').1,(HR.out.d.gi.em i hi').2.1];exact⟨Nat.zero_le _,Nat.zero_le _⟩))
   clear hB hG hL hi hi' hrs
   go_wp2_with fail
   refine HTK.out.mono ?_
   rintro e4 w4 ⟨rfl,c4,hx4,hf4,hr4⟩
   have HSE:=Lib.hid (now_any (g:=tickTo i g) wr w4 HG.out.2.2.1.1 HG.out.1 HG.out.2.1 HR.out.d.n (by rw[tickTo_n];exact HG.out.2.2.2) HRS.out.pre HR.out.d.N HRS.out.sz (by
    have h1:=HR.out.d.sv i (by rw[tickTo_n];exact HG.out.2.2.2)
    have h2:=HR.out.d.wy
    have h3:=HH.out.2.1
    have h4:=HIN.out
    have h5:=HH.out.1.n.2
    omega) hx4 hf4 hr4)
   clear hx4 hf4 hr4 HTK y0 x1 t1
   go_wp2_with fail
   refine HSE.out.mono ?_
   rintro e5 w5 ⟨rfl,hm5⟩
   have HN:=Lib.hid (HR.out.next HRS.out hm5)
   have HWR:Hid (wrap64 ((i:Int)+1)=((i+1:Nat):Int)):=Lib.hid (by have h4:=HG.out.2.2.2;have h5:=HH.out.1.n.2;rw[IntWalk.wrap64_in _ YS5];omega)
   clear hm5 HSE
   go_wp2_with fail
   case roundEnd=>
    rw[HWR.out]
    obtain⟨c2,hn2⟩:=HN.out
    have h4:=HG.out.2.2.2
    exact⟨⟨i+1,h4,rfl,_,_,hn2⟩,by simp[intOf];omega⟩
  case neg=>
   have t1: ¬(i:Int)<(g.n:Int):=by omega
   have hie:i=g.n:=by have:=HIN.out;omega
   have HR2:Hid (R2 N B c w wr gp 0 g h c1 h1 (tickTo g.n g)):=Lib.hid (by
    have:=HR.out
    rw[hie] at this
    exact this.r2)
   clear hB hG hL hie hi
   go_wp2_with fail
   clear y0 t1 HR HIN
   obtain⟨M,hM⟩: ∃M:Nat,M=30000:=⟨_,rfl⟩
   have HMM:=Lib.hid hM
   clear hM
   go_loopw [4,5,6] (fun iv _ _ wr=> ∃k:Nat,k≤M∧iv= .int .i64 (k:Int)∧ ∃c1 h1 g1,R2 N B c w wr gp k g h c1 h1 g1) (fun iv _ _ _=>M-(intOf iv).toNat)
   case atStart=>exact⟨0,Nat.zero_le _,rfl,_,_,_,HR2.out⟩
   case round=>
    rename_i wr0 _ _ _ wr
    obtain⟨k,hk,rfl,c2,h2,g1,hr2⟩:=hrel
    have HR:=Lib.hid hr2
    have HK:Hid (k≤30000):=Lib.hid (by have:=HMM.out;omega)
    clear hr2 hk HR2
    obtain⟨ps,br,cr,bk,ck,bs,cs,wv,bt,ct,ov,ss,hB,hG,hL,-⟩:=HR.out.v.opn HR.out.d.n.1
    obtain⟨wa,wc,ew⟩:=hG.w.slice
    subst ew
    have y3:=hB.cell 3 rfl
    have HFIN:Hid ((k=30000∨g1.way= [])→g1.way.length=0∧(Mg c w wr gp (Vw.round g)∧ ∃h',RD N (B+1600000) h' (Vw.round g)∧Gon g.n h h' g (Vw.round g))):=Lib.hid fun he=>by
     obtain⟨e1,h3⟩:=HR.out.fin HK.out he
     have h4:=HR.out
     rw[e1] at h3 h4⊢
     exact⟨by rw[HH.out.2.2];rfl,⟨_,h4.lx,h4.fr,h4.v⟩,_,h3,h4.g⟩
    by_cases hk2:k<30000
    case neg=>
     have t1:decide ((k:Int)<30000)=false:=decide_eq_false YS5
     have HF:=Lib.hid (HFIN.out (.inl (by have:=HK.out;omega)))
     rw[HF.out.1] at y3
     clear hB hG hL hk2 HFIN
     go_wp2_with fail
     go_ret
     exact⟨rfl,HF.out.2⟩
    case pos=>
    have t1:decide ((k:Int)<30000)=true:=decide_eq_true YS5
    cases hway:g1.way with
    |nil=>
     have HF:=Lib.hid (HFIN.out (.inr hway))
     rw[HF.out.1] at y3
     clear hB hG hL hk2 HFIN hway
     go_wp2_with fail
     go_ret
     exact⟨rfl,HF.out.2⟩
    |cons x l=>
    have t2:0<g1.way.length:=by rw[hway,List.length_cons];omega
    have hx0:g1.way[0]?=some x:=by rw[hway];rfl
    obtain⟨hto,htb,h4,hrs⟩:=HR.out.d.take hway
    have HRS:=Lib.hid hrs
    have HTB:=Lib.hid (And.intro hto (And.intro htb (And.intro hk2 hway)))
    have HSZ:Hid (g1.way.length≤100000000∧g1.n≤5∧ ∀i,i<g1.n→(g1.saves i).length≤100000000):=Lib.hid (by
     have h1:=HR.out.d.wy
     have h2:=HH.out.2.1
     have h3:=HK.out
     refine⟨YS5,HR.out.d.n.2,fun i hi=> ?_⟩
     have h4:=HR.out.d.sv i hi
     omega)
    have HTA:=Lib.hid (gtake_any 0 wr HR.out.v HR.out.d.n hx0 HSZ.out.1)
    clear hB hG hL hrs hto htb hx0 hway hk2 HFIN
    unfold sdV sdC at HTA
    go_wp2_with fail
    refine HTA.out.mono ?_
    rintro e4 w4 ⟨ua,uc,rfl,c4,hx4,hf4,hv4,hs4⟩
    have HM4:=Lib.hid (And.intro hx4 (And.intro hf4 (And.intro hv4 hs4)))
    clear hx4 hf4 hv4 hs4 y3 t2
    go_upto_region 11 with fail
    obtain⟨w5,hw5⟩: ∃w5,w5=w4.alloc (.cells #[.int .i64 (x.to:Int),.int .i64 (x.m.kd:Int),.int .i64 (x.m.fr:Int),.int .i64 (x.m.vw:Int),.int .i64 (x.m.nr:Int),.int .i64 (x.m.ao:Int),.slice ua x.m.ops.length uc,.int .i64 (x.m.cm:Int),.int .i64 (x.m.sb:Int),.int .i64 (x.m.ls:Int)] 53):=⟨_,rfl⟩
    obtain⟨bx,hbx⟩: ∃bx,bx=w4.heap.size:=⟨_,rfl⟩
    obtain⟨c5,hc5⟩: ∃c5:Lb,c5=(fun j=>if j<w4.heap.size then c4 j else 0):=⟨_,rfl⟩
    have hn7:(wayOut g1 0).n≤7:=by have:=HSZ.out.2.1;show g1.n≤7;omega
    have h45:Below w4.heap.size w4 w5:=by rw[hw5];exact(Below.refl _ _).alloc (Nat.le_refl _) _
    have hlx5:Lx w4 c4 c5:=by rw[hc5];exact fun j hj=>if_pos hj
    have HX5:Hid (Lx wr c2 c5∧Fr Fg c2 wr w5∧c5 bx=0∧Blk w5 bx 53 [.int .i64 (x.to:Int),.int .i64 (x.m.kd:Int),.int .i64 (x.m.fr:Int),.int .i64 (x.m.vw:Int),.int .i64 (x.m.nr:Int),.int .i64 (x.m.ao:Int),.slice ua x.m.ops.length uc,.int .i64 (x.m.cm:Int),.int .i64 (x.m.sb:Int),.int .i64 (x.m.ls:Int)]):=Lib.hid
     ⟨HM4.out.1.trans hlx5 HM4.out.2.1.size,(HM4.out.2.1.mono fun l hl=>by unfold Fg;omega).trans HM4.out.1 (Fr.of_below h45),by rw[hc5,hbx];exact if_neg YS5,by rw[hw5,hbx];exact Blk.new w4 53 _⟩
    have HV5:=Lib.hid (HM4.out.2.2.1.keep hn7 hlx5 fun j hj _=>h45.block j hj)
    have HS5:=Lib.hid (HM4.out.2.2.2.keep (opE_ok 3) hlx5 fun j hj _=>h45.block j hj)
    rw[←hw5,←hbx]
    clear hw5 hbx hc5 hn7 h45 hlx5
    obtain⟨ps2,br2,cr2,bk2,ck2,bs2,cs2,wv2,bt2,ct2,ov2,ss2,hB2,hG2,hL2,hlb2,-⟩:=HV5.out.opn HR.out.d.n.1
    obtain⟨x1b,_,_,_,_,_⟩:=GP.cells (g:=wayOut g1 0) hG2 (show x.to<(wayOut g1 0).n from HTB.out.1)
    have y0b:=hB2.cell 0 rfl
    have HG2:=Lib.hid (And.intro hB2 (And.intro hG2 (And.intro hL2 hlb2)))
    have t1x:(x.to:Int)<(g1.n:Int):=by have:=HTB.out.1;omega
    have hF3: ¬Fi x.to 3:=fun h=>by have h9:10+10*x.to≤3∧3≤15+10*x.to:=h;omega
    have HTK:=Lib.hid (take_any (i:=x.to) x.m (.slice ua x.m.ops.length uc) (ps2 x.to) w5.drew ((hG2.rp x.to HTB.out.1).keep (Lx.refl w5 c5) fun _ _ _=>rfl) (HS5.out.keep (opE_ok 3) (Lx.refl w5 c5) fun _ _ _=>rfl) ⟨hF3,hF3⟩ HTB.out.2.1)
    unfold msV at HTK
    clear hB2 hG2 hL2 hlb2 hF3
    refine wp_region_K (fun W=>Hid (W.cell? ⟨gp,0,none⟩=some (.slice (some ⟨br2,0,none⟩) g1.n cr2)∧W.cell? ⟨br2,x.to,none⟩=some (.pointer (some ⟨ps2 x.to,0,none⟩))∧Blk W bx 53 [.int .i64 (x.to:Int),.int .i64 (x.m.kd:Int),.int .i64 (x.m.fr:Int),.int .i64 (x.m.vw:Int),.int .i64 (x.m.nr:Int),.int .i64 (x.m.ao:Int),.slice ua x.m.ops.length uc,.int .i64 (x.m.cm:Int),.int .i64 (x.m.sb:Int),.int .i64 (x.m.ls:Int)])) 16 YS6 ?_ (fun hHeld1=> ?_)
    ·exact Lib.hid ⟨y0b,x1b,HX5.out.2.2.2⟩
    refine tkK 0 ?_ (y:=YS2)
    try simp only[ap]
    refine tkK 1 ?_ (y:=YS2)
    try simp only[ap]
    refine tkK 2 ?_ (y:=YS2)
    try simp only[ap]
    refine tkK 3 ?_ (y:=YS3)
    try simp only[ap]
    refine tkK 4 ?_ (y:=YS2)
    try simp only[ap]
    refine tkK 5 ?_ (y:=YS3)
    try simp only[ap]
    refine tkK 6 ?_ (y:=YS2)
    try simp only[ap]
    refine tkK 7 ?_ (y:=YS3)
    try simp only[ap]
    refine tkK 8 ?_ (y:=YS2)
    try simp only[ap]
    refine tkK 9 ?_ (y:=by refine Or.inl ⟨by rfl,?_⟩;intro W hSw;(try dsimp only at hSw);(have hb:=hSw.out.2.2;clear hSw;have z1:=hb.cell 1 rfl;have z2:=hb.cell 2 rfl;have z3:=hb.cell 3 rfl;have z4:=hb.cell 4 rfl;have z5:=hb.cell 5 rfl;have z6:=hb.cell 6 rfl;have z7:=hb.cell 7 rfl;have z8:=hb.cell 8 rfl;have z9:=hb.cell 9 rfl;clear hb);go_simp;(try with_reducible rfl))
    try simp only[ap]
    refine wpAnyK_ready (rs:= [10]) YS6 (by simp) ?_
    refine AllReadyK.cons (o:= ?oi11) ?hi11 (fun K hK=> ?hs11) AllReadyK.nil
    case hi11=>exact YS11
    go_simp
    refine HTK.out.mono ?_
    rintro e6 w6 ⟨rfl,hm6⟩
    have HM6:=Lib.hid (Mt.undrew hm6)
    clear hm6
    have HE6:Hid (w6.heap[gp]?=w5.heap[gp]?∧w6.heap[br2]?=w5.heap[br2]?∧w6.heap[bx]?=w5.heap[bx]?):=Lib.hid (by
     obtain⟨c6,h1,h2,h3⟩:=HM6.out
     have hto:x.to<5:=by have:=HTB.out.1;have:=HSZ.out.2.1;omega
     exact⟨h2.block gp HG2.out.1.lt (by rw[HG2.out.2.2.1.1];unfold Fi;omega),h2.block br2 HG2.out.2.2.2 (by rw[HG2.out.2.2.1.2.1];unfold Fi;omega),h2.block bx HX5.out.2.2.2.lt (by rw[HX5.out.2.2.1];unfold Fi;omega)⟩)
    go_wp2_with fail
    refine hK.out _ _ ?_ (fun hHeld2=> ?_)
    ·exact Lib.hid ⟨(cell_eq HE6.out.1 _).trans y0b,(cell_eq HE6.out.2.1 _).trans x1b,HE6.out.2.2.trans HX5.out.2.2.2⟩
    clear hK
    try simp only[ap]
    refine tkK 11 ?_ (y:=YS2)
    try simp only[ap]
    refine tkK 12 ?_ (y:=YS2)
    try simp only[ap]
    refine tkK 13 ?_ (y:=YS2)
    try simp only[ap]
    refine tkK 14 ?_ (y:=YS2)
    try simp only[ap]
    refine tkK 15 ?_ (y:=YS3)
    try simp only[ap]
    refine wpAnyK_lasts [17,18] YS6 (by rfl) (by rfl) ?_
    simp only[List.filterMap_cons,List.filterMap_nil,List.getElem?_toArray,List.getElem?_cons_succ,List.getElem?_cons_zero]
    obtain⟨c6,hx6,hf6,hr6⟩:=HM6.out
    have HSE:=Lib.hid (now_any (g:=wayOut g1 0) w5 w6 HG2.out.2.2.1.1 HG2.out.1 HG2.out.2.1 HR.out.d.n HTB.out.1 HRS.out.pre HR.out.d.N HRS.out.sz (by
     have h1:=HSZ.out
     have h4:(wayOut g1 0).way.length≤g1.way.length:=by
      show(g1.way.take 0++g1.way.drop (0+1)).length≤_
      rw[List.length_append,List.length_take,List.length_drop]
      omega
     exact⟨h1.2.2 x.to HTB.out.1,YS5⟩) hx6 hf6 hr6)
    clear hx6 hf6 hr6 hHeld1 hHeld2 HTK
    refine wpList_step fun K hK0=> ?_
    have hK:=Lib.hid hK0
    clear hK0
    rw[if_pos (by rfl)]
    go_simp
    refine HSE.out.mono ?_
    rintro e7 w7 ⟨rfl,hm7⟩
    have HM7:=Lib.hid hm7
    clear hm7
    go_wp2_with fail
    refine hK.out _ _ ?_
    clear hK
    try simp only[ap]
    have HN:=Lib.hid (HR.out.next HTB.out.2.2.1 HTB.out.2.2.2 HRS.out (Mg.trans HX5.out.1 HX5.out.2.1 HM7.out))
    have HWR:Hid (wrap64 ((k:Int)+1)=((k+1:Nat):Int)):=Lib.hid (by have h4:=HTB.out.2.2.1;rw[IntWalk.wrap64_in _ YS5];omega)
    clear HSE y0b x1b t1x t1 HM7 HM6 HX5 HV5 HS5 HG2 HM4 HTA
    go_wp2_with fail
    case roundEnd=>
     rw[HWR.out]
     obtain⟨c3,hn2⟩:=HN.out
     have h4:=HTB.out.2.2.1
     have h5:=HMM.out
     exact⟨⟨k+1,YS5,rfl,_,_,_,hn2⟩,by simp[intOf];omega⟩
open Go.RowKit Go.Maps
variable {N B e:Nat} {h:Gh Op} {g:Gp Op}
theorem RD.ask (D:RD N B h g)(hN:N+1≤1000){i:Nat}(hi:i<g.n)(o:Op): ∃h',RS (N+1) B h' h g i (if askE mayO (g.r i) o=0 then Vw.ask (g.r i) o else g.r i):=by
 have hTM:TM=1099511627776:=rfl
 have r:=D.gi.rep hi
 have hrn:(g.r i).n≤5:=by rw[r.nn];exact D.n.2
 have h0:=D.gi.em i hi
 by_cases hc:askE mayO (g.r i) o=0
 ·rw[if_pos hc]
  have h1:mayO o=true∧leads (g.r i)=true:=by
   unfold askE at hc
   split at hc
   ·omega
   ·split at hc
    ·omega
    ·rename_i h1 h2
     exact⟨by simpa using h1,by simpa using h2⟩
  have hm:=mo_ask (g.r i) o
  exact D.step hi hN (D.gi.al.p_ask YS5 hi h1.2 h1.1) (ask_td _ _) YS13 YS12 (by rw[ask_idle];exact Nat.le_succ _)
 ·rw[if_neg hc]
  exact D.step hi hN (St.refl (D.gi.al.up (Nat.le_succ N)) i) rfl (by rw[h0.1];exact Nat.zero_le _) (by rw[h0.2.1];exact Nat.zero_le _) (Nat.le_succ _)
theorem DI.rd (D:DI N e h g):RD N 30000 h g:=⟨D.gi,D.n,by have:=D.N;have:=D.le;omega,fun i hi=>by have:=D.sv.n i hi;have:=D.le;omega,D.way,fun i hi=>by have:=D.id i hi;have:=D.le;omega⟩
structure SnQ (B:Nat)(g:Gp Op):Prop where
 af:Aft g
 tp: ∃V,V≤B∧Top V g∧phi V g≤29000
theorem EvI.snq (E:EvI e g)(he:e≤150):SnQ 150 g:=by
 obtain⟨V,h1,h2,h3⟩:=E.tp
 exact⟨E.af,V,YS5,h2,YS5⟩
theorem SnQ.round (R:SnQ B g)(G:GI mayO N h g)(hN:N≤1000)(hn:g.n≤5)(hB:B≤196):(Vw.round g).way= []∧SnQ (B+1) (Vw.round g):=by
 obtain⟨V,hV,T,hp⟩:=R.tp
 have hNT:N≤TM:=by unfold TM;omega
 obtain⟨h1,h2,G2,_,T2⟩:=round_end hNT G hn T hp
 exact⟨h1,R.af.round hNT G,V+1,YS5,T2,by have:=phi_nil (V:=V+1) (Vw.round g) h1 (by rw[round_n];exact hn);omega⟩
theorem SnQ.sf (R:SnQ 150 g)(G:GI mayO N h g)(hN:N≤1000)(hn:g.n≤5): ∃h' V L,V≤190∧RG mayO N 190 h' (rounds 40 g)∧SF V L L (rounds 40 g):=by
 obtain⟨V,hV,T,hp⟩:=R.tp
 have hNT:N≤TM:=by unfold TM;omega
 obtain⟨h1,h2,G2,_,T2⟩:=round_end hNT G hn T hp
 exact rounds_sf hNT hn (Nat.le_refl 151) h2 ⟨G2,R.af.round hNT G,h1,fun k hk=>Nat.le_trans (T2 k hk) YS5⟩
structure SnE (g:Gp Op)(V P L:Nat)(o:Op):Prop where
 ld:leads (g.r P)=true∧ ∀k,k<g.n→k≠P→leads (g.r k)=false
 e:askE mayO (g.r P) o=0∨askE mayO (g.r P) o=1
 q:SnQ 190 (evAsk mayO g P o)
 w: ∀k,k<3→(rounds (k+1) (evAsk mayO g P o)).way= []
 a: ∀k,k<g.n→((rounds 3 (evAsk mayO g P o)).r k).st=0∧((rounds 3 (evAsk mayO g P o)).r k).vw=V∧((rounds 3 (evAsk mayO g P o)).r k).nr=V∧((rounds 3 (evAsk mayO g P o)).r k).td=(if askE mayO (g.r P) o=0 then L+1 else L)∧((rounds 3 (evAsk mayO g P o)).r k).ls=(if askE mayO (g.r P) o=0 then L+1 else L)
 o:askE mayO (g.r P) o=0→(rounds 3 (evAsk mayO g P o)).order.length=L+1∧(rounds 3 (evAsk mayO g P o)).order[L]?=some o
 l:(g.r P).ls=L
theorem soon_end {V L:Nat}{h1:Gh Op}(G:GI mayO N h g)(hN:N+1≤1000)(hn:g.n≤5)(R:RG mayO N 190 h1 g)(S:SF V L L g)(hV:V≤190)(o:Op):SnE g V (V % g.n) L o:=by
 have hNT:N+1≤TM:=by unfold TM;omega
 obtain⟨l1,l2,he,h2,G2,A2,D2,p2,q0,q1⟩:=asked hNT hn G R.af S o
 have hphi:phi V g≤27600:=by have:=phi_nil (V:=V) g R.wy hn;omega
 have hn2:(evAsk mayO g (V % g.n) o).n≤5:=hn
 obtain⟨w3,h3,G3,E3,S3,hk3⟩:=three (N:=N+1) hNT hn2 G2 A2 D2 hV YS5
 have Q0:SnQ 190 (evAsk mayO g (V % g.n) o):=⟨A2,V,hV,D2.1,YS5⟩
 have Q1:=(Q0.round G2 hN hn2 YS5).2
 obtain⟨h4,G4,-,-⟩:=hk3 1 YS5
 have Q2:=(Q1.round G4 hN (by rw[round_n];exact hn2) YS5).2
 obtain⟨h5,G5,-,-⟩:=hk3 2 YS5
 have Q3:=(Q2.round G5 hN (by rw[round_n,round_n];exact hn2) YS5).2
 obtain⟨o1,o2,o3⟩:=order_is G3 S3 (show Aft (rounds 3 (evAsk mayO g (V % g.n) o)) from Q3.af)
 have hls:((evAsk mayO g (V % g.n) o).r (V %(evAsk mayO g (V % g.n) o).n)).ls=if askE mayO (g.r (V % g.n)) o=0 then L+1 else L:=by
  show((evAsk mayO g (V % g.n) o).r (V % g.n)).ls=_
  by_cases hc:askE mayO (g.r (V % g.n)) o=0
  ·rw[if_pos hc];exact(q0 hc).1
  ·rw[if_neg hc];exact q1 hc
 rw[hls] at o1 o2 o3
 have hn3:(rounds 3 (evAsk mayO g (V % g.n) o)).n=g.n:=by rw[rounds_n];rfl
 refine⟨⟨l1,l2⟩,he,Q0,w3,fun k hk=>o3 k (by rw[hn3];exact hk),fun hc=> ?_,S.lp⟩
 rw[if_pos hc] at o1 o2
 refine⟨o1,?_⟩
 rw[o2,List.getElem?_take,if_pos YS5]
 obtain⟨hb,hw⟩:=(q0 hc)
 have hB:h2.B V:=by
  have h6:=G2.al.core.bn (V %(evAsk mayO g (V % g.n) o).n) (Nat.mod_lt _ G2.n1)
  have h7:=G2.al.leads_nr (Nat.mod_lt V G2.n1) (leads_yes (by rw[D2.2.1.1,(G2.rep (Nat.mod_lt V G2.n1)).nn,(G2.rep (Nat.mod_lt V G2.n1)).id]) D2.2.1.2)
  rw[D2.2.1.1] at h7
  rw[show((evAsk mayO g (V % g.n) o).r (V %(evAsk mayO g (V % g.n) o).n)).nr=V from h7.2.2.1] at h6
  exact h6
 obtain⟨t,ht⟩:=E3.ee.w V hB
 have hlt:=(List.getElem?_eq_some_iff.1 hw).1
 rw[←ht,List.getElem?_append_left hlt]
 exact hw
end Go.Proofs.YtdmjegelcdghlaaGreat.Vw
namespace Go.Proofs.YtdmjegelcdghlaaGreat
theorem YS16 {p:Prop}(h:p:=by have:=HC.out.2;simp only at this;omega):p:=h
theorem YS15 {p:Prop}(h:p:=by rw[HR.out];rfl):p:=h
theorem YS9 {p:Prop}(h:p:=by unfold mayC scd;have hn':sco≠ []:=hn;simp[hn']):p:=h
theorem YS7 {p:Prop}(h:p:=by
 have HN:=Lib.hid hy
 clear hy
 go_wp2_with fail
 go_ret
 exact⟨by rw[HN.out]<;>rfl,HB3.out⟩):p:=h
theorem YS4 {p:Prop}(h:p:=by
 go_wp2_with fail
 go_ret
 exact⟨by rw[HN.out]<;>rfl,(Below.refl _ _).alloc (Nat.le_refl _) _⟩):p:=h
end Go.Proofs.YtdmjegelcdghlaaGreat
namespace Go.Proofs.YtdmjegelcdghlaaGreat.Gr
open Go.RowKit Go.Maps
theorem setC_big {l:List By}(h:32<l.length):setC l=false:=by unfold setC;rw[decide_eq_false YS5];rfl
theorem may_b1 (c:Cm)(sv:Value)(w:World)(hk:c.kd=1)(hs:RdS w sv c.sco)(hb:32<c.sco.length∧c.sco.length≤8796093022208):
 Calls Tryz.prog 82 #[cmV c sv] w fun e w'=>e= .returned (.bool (mayC c))∧Below w.heap.size w w':=by
 obtain⟨kd,fam,ser,tok,cli,usr,sco,red,cha,met,ver,rf,edg⟩:=c
 subst hk
 obtain⟨sa,sc,rfl⟩:=hs.1.slice
 have HS:=Lib.hid hs
 have HC:=Lib.hid hb
 clear hs hb
 have HM0:=Lib.hid (M2.start w [.int .i64 1,.string ⟨fam.toArray⟩,.int .i64 ser,.int .i64 tok,.string ⟨cli.toArray⟩,.string ⟨usr.toArray⟩,.slice sa sco.length sc,.string ⟨red.toArray⟩,.string ⟨cha.toArray⟩,.string ⟨met.toArray⟩,.string ⟨ver.toArray⟩,.bool rf,.int .i64 edg] [.int .i64 0,.string ⟨#[]⟩,.int .i64 0,.int .i64 0,.string ⟨cli.toArray⟩,.string ⟨usr.toArray⟩,.slice none 0 0,.string ⟨red.toArray⟩,.string ⟨cha.toArray⟩,.string ⟨met.toArray⟩,.string ⟨#[]⟩,.bool false,.int .i64 0])
 unfold cmV
 have H1:=Lib.hid (setG_any _ sco _ (HS.out.below HM0.out.b) YS16)
 go_enter Tryz.func82,Tryz.ntmps82
 go_wp2_with fail
 refine H1.out.mono ?_
 rintro e w1 ⟨rfl,hb1⟩
 have HM1:=Lib.hid (HM0.out.below hb1)
 clear hb1 H1
 have h1:setC sco=false:=setC_big HC.out.1
 rw[h1]
 have HR:Hid (mayC ⟨1,fam,ser,tok,cli,usr,sco,red,cha,met,ver,rf,edg⟩=false):=Lib.hid (by unfold mayC;simp[h1])
 clear h1
 go_wp2_with fail
 go_ret
 exact⟨YS15,HM1.out.b⟩
theorem may_b3 (c:Cm)(sv:Value)(w:World)(hk:c.kd=3)(hs:RdS w sv c.sco)(hb:32<c.sco.length∧c.sco.length≤8796093022208):
 Calls Tryz.prog 82 #[cmV c sv] w fun e w'=>e= .returned (.bool (mayC c))∧Below w.heap.size w w':=by
 obtain⟨kd,fam,ser,tok,cli,usr,sco,red,cha,met,ver,rf,edg⟩:=c
 subst hk
 obtain⟨sa,sc,rfl⟩:=hs.1.slice
 have HS:=Lib.hid hs
 have HC:=Lib.hid hb
 clear hs hb
 have HM0:=Lib.hid (M2.start w [.int .i64 3,.string ⟨fam.toArray⟩,.int .i64 ser,.int .i64 tok,.string ⟨cli.toArray⟩,.string ⟨usr.toArray⟩,.slice sa sco.length sc,.string ⟨red.toArray⟩,.string ⟨cha.toArray⟩,.string ⟨met.toArray⟩,.string ⟨ver.toArray⟩,.bool rf,.int .i64 edg] [.int .i64 0,.string ⟨#[]⟩,.int .i64 ser,.int .i64 0,.string ⟨cli.toArray⟩,.string ⟨#[]⟩,.slice none 0 0,.string ⟨#[]⟩,.string ⟨#[]⟩,.string ⟨#[]⟩,.string ⟨#[]⟩,.bool false,.int .i64 0])
 unfold cmV
 have H1:=Lib.hid (setG_any _ sco _ (HS.out.below HM0.out.b) YS16)
 go_enter Tryz.func82,Tryz.ntmps82
 go_wp2_with fail
 refine H1.out.mono ?_
 rintro e w1 ⟨rfl,hb1⟩
 have HM1:=Lib.hid (HM0.out.below hb1)
 clear hb1 H1
 have h1:setC sco=false:=setC_big HC.out.1
 rw[h1]
 have HR:Hid (mayC ⟨3,fam,ser,tok,cli,usr,sco,red,cha,met,ver,rf,edg⟩=false):=Lib.hid (by unfold mayC;simp[h1])
 clear h1
 go_wp2_with fail
 go_ret
 exact⟨YS15,HM1.out.b⟩
theorem may_b4 (c:Cm)(sv:Value)(w:World)(hk:c.kd=4)(hs:RdS w sv c.sco)(hb:32<c.sco.length∧c.sco.length≤8796093022208):
 Calls Tryz.prog 82 #[cmV c sv] w fun e w'=>e= .returned (.bool (mayC c))∧Below w.heap.size w w':=by
 obtain⟨kd,fam,ser,tok,cli,usr,sco,red,cha,met,ver,rf,edg⟩:=c
 subst hk
 obtain⟨sa,sc,rfl⟩:=hs.1.slice
 have HS:=Lib.hid hs
 have HC:=Lib.hid hb
 clear hs hb
 have HM0:=Lib.hid (M2.start w [.int .i64 4,.string ⟨fam.toArray⟩,.int .i64 ser,.int .i64 tok,.string ⟨cli.toArray⟩,.string ⟨usr.toArray⟩,.slice sa sco.length sc,.string ⟨red.toArray⟩,.string ⟨cha.toArray⟩,.string ⟨met.toArray⟩,.string ⟨ver.toArray⟩,.bool rf,.int .i64 edg] [.int .i64 0,.string ⟨#[]⟩,.int .i64 0,.int .i64 0,.string ⟨cli.toArray⟩,.string ⟨#[]⟩,.slice none 0 0,.string ⟨#[]⟩,.string ⟨#[]⟩,.string ⟨#[]⟩,.string ⟨#[]⟩,.bool false,.int .i64 0])
 unfold cmV
 have H1:=Lib.hid (setG_any _ sco _ (HS.out.below HM0.out.b) YS16)
 go_enter Tryz.func82,Tryz.ntmps82
 go_wp2_with fail
 refine H1.out.mono ?_
 rintro e w1 ⟨rfl,hb1⟩
 have HM1:=Lib.hid (HM0.out.below hb1)
 clear hb1 H1
 have h1:setC sco=false:=setC_big HC.out.1
 rw[h1]
 have HR:Hid (mayC ⟨4,fam,ser,tok,cli,usr,sco,red,cha,met,ver,rf,edg⟩=false):=Lib.hid (by unfold mayC;simp[h1])
 clear h1
 go_wp2_with fail
 go_ret
 exact⟨YS15,HM1.out.b⟩
theorem may_b2 (c:Cm)(sv:Value)(w:World)(hk:c.kd=2)(hn:c.sco≠ [])(hs:RdS w sv c.sco):
 Calls Tryz.prog 82 #[cmV c sv] w fun e w'=>e= .returned (.bool (mayC c))∧Below w.heap.size w w':=by
 obtain⟨kd,fam,ser,tok,cli,usr,sco,red,cha,met,ver,rf,edg⟩:=c
 subst hk
 obtain⟨n,h1⟩: ∃n,n=sco.length:=⟨_,rfl⟩
 have t1:0<n:=by rw[h1];exact List.length_pos_iff.2 hn
 have t2:(0:Int)<(n:Int):=by omega
 have t3: ¬n=0:=by omega
 obtain⟨sa,sc,hv⟩:=hs.1.slice
 rw[←h1] at hv
 subst hv
 have HR:Hid (mayC ⟨2,fam,ser,tok,cli,usr,sco,red,cha,met,ver,rf,edg⟩=false):=Lib.hid YS9
 have HM0:=Lib.hid (M2.start w [.int .i64 2,.string ⟨fam.toArray⟩,.int .i64 ser,.int .i64 tok,.string ⟨cli.toArray⟩,.string ⟨usr.toArray⟩,.slice sa n sc,.string ⟨red.toArray⟩,.string ⟨cha.toArray⟩,.string ⟨met.toArray⟩,.string ⟨ver.toArray⟩,.bool rf,.int .i64 edg] [.int .i64 0,.string ⟨#[]⟩,.int .i64 0,.int .i64 0,.string ⟨cli.toArray⟩,.string ⟨#[]⟩,.slice none 0 0,.string ⟨red.toArray⟩,.string ⟨#[]⟩,.string ⟨#[]⟩,.string ⟨ver.toArray⟩,.bool rf,.int .i64 0])
 clear hs h1 hn
 unfold cmV
 go_enter Tryz.func82,Tryz.ntmps82
 go_wp2_with fail
 go_ret
 exact⟨YS15,HM0.out.b⟩
theorem may_b5 (c:Cm)(sv:Value)(w:World)(hk:c.kd=5)(hn:c.sco≠ [])(hs:RdS w sv c.sco):
 Calls Tryz.prog 82 #[cmV c sv] w fun e w'=>e= .returned (.bool (mayC c))∧Below w.heap.size w w':=by
 obtain⟨kd,fam,ser,tok,cli,usr,sco,red,cha,met,ver,rf,edg⟩:=c
 subst hk
 obtain⟨n,h1⟩: ∃n,n=sco.length:=⟨_,rfl⟩
 have t1:0<n:=by rw[h1];exact List.length_pos_iff.2 hn
 have t2:(0:Int)<(n:Int):=by omega
 have t3: ¬n=0:=by omega
 obtain⟨sa,sc,hv⟩:=hs.1.slice
 rw[←h1] at hv
 subst hv
 have HR:Hid (mayC ⟨5,fam,ser,tok,cli,usr,sco,red,cha,met,ver,rf,edg⟩=false):=Lib.hid YS9
 have HM0:=Lib.hid (M2.start w [.int .i64 5,.string ⟨fam.toArray⟩,.int .i64 ser,.int .i64 tok,.string ⟨cli.toArray⟩,.string ⟨usr.toArray⟩,.slice sa n sc,.string ⟨red.toArray⟩,.string ⟨cha.toArray⟩,.string ⟨met.toArray⟩,.string ⟨ver.toArray⟩,.bool rf,.int .i64 edg] [.int .i64 0,.string ⟨#[]⟩,.int .i64 ser,.int .i64 tok,.string ⟨cli.toArray⟩,.string ⟨#[]⟩,.slice none 0 0,.string ⟨#[]⟩,.string ⟨#[]⟩,.string ⟨#[]⟩,.string ⟨#[]⟩,.bool false,.int .i64 0])
 clear hs h1 hn
 unfold cmV
 go_enter Tryz.func82,Tryz.ntmps82
 go_wp2_with fail
 go_ret
 exact⟨YS15,HM0.out.b⟩
theorem may_b6 (c:Cm)(sv:Value)(w:World)(hk:c.kd=6)(hn:c.sco≠ [])(hs:RdS w sv c.sco):
 Calls Tryz.prog 82 #[cmV c sv] w fun e w'=>e= .returned (.bool (mayC c))∧Below w.heap.size w w':=by
 obtain⟨kd,fam,ser,tok,cli,usr,sco,red,cha,met,ver,rf,edg⟩:=c
 subst hk
 obtain⟨n,h1⟩: ∃n,n=sco.length:=⟨_,rfl⟩
 have t1:0<n:=by rw[h1];exact List.length_pos_iff.2 hn
 have t2:(0:Int)<(n:Int):=by omega
 have t3: ¬n=0:=by omega
 obtain⟨sa,sc,hv⟩:=hs.1.slice
 rw[←h1] at hv
 subst hv
 have HR:Hid (mayC ⟨6,fam,ser,tok,cli,usr,sco,red,cha,met,ver,rf,edg⟩=false):=Lib.hid YS9
 have HM0:=Lib.hid (M2.start w [.int .i64 6,.string ⟨fam.toArray⟩,.int .i64 ser,.int .i64 tok,.string ⟨cli.toArray⟩,.string ⟨usr.toArray⟩,.slice sa n sc,.string ⟨red.toArray⟩,.string ⟨cha.toArray⟩,.string ⟨met.toArray⟩,.string ⟨ver.toArray⟩,.bool rf,.int .i64 edg] [.int .i64 0,.string ⟨#[]⟩,.int .i64 ser,.int .i64 tok,.string ⟨#[]⟩,.string ⟨#[]⟩,.slice none 0 0,.string ⟨#[]⟩,.string ⟨#[]⟩,.string ⟨#[]⟩,.string ⟨#[]⟩,.bool false,.int .i64 edg])
 clear hs h1 hn
 unfold cmV
 go_enter Tryz.func82,Tryz.ntmps82
 go_wp2_with fail
 go_ret
 exact⟨YS15,HM0.out.b⟩
theorem may_b7 (c:Cm)(sv:Value)(w:World)(hk:c.kd=7)(hn:c.sco≠ [])(hs:RdS w sv c.sco):
 Calls Tryz.prog 82 #[cmV c sv] w fun e w'=>e= .returned (.bool (mayC c))∧Below w.heap.size w w':=by
 obtain⟨kd,fam,ser,tok,cli,usr,sco,red,cha,met,ver,rf,edg⟩:=c
 subst hk
 obtain⟨n,h1⟩: ∃n,n=sco.length:=⟨_,rfl⟩
 have t1:0<n:=by rw[h1];exact List.length_pos_iff.2 hn
 have t2:(0:Int)<(n:Int):=by omega
 have t3: ¬n=0:=by omega
 obtain⟨sa,sc,hv⟩:=hs.1.slice
 rw[←h1] at hv
 subst hv
 have HR:Hid (mayC ⟨7,fam,ser,tok,cli,usr,sco,red,cha,met,ver,rf,edg⟩=false):=Lib.hid YS9
 have HM0:=Lib.hid (M2.start w [.int .i64 7,.string ⟨fam.toArray⟩,.int .i64 ser,.int .i64 tok,.string ⟨cli.toArray⟩,.string ⟨usr.toArray⟩,.slice sa n sc,.string ⟨red.toArray⟩,.string ⟨cha.toArray⟩,.string ⟨met.toArray⟩,.string ⟨ver.toArray⟩,.bool rf,.int .i64 edg] [.int .i64 0,.string ⟨#[]⟩,.int .i64 0,.int .i64 0,.string ⟨#[]⟩,.string ⟨#[]⟩,.slice none 0 0,.string ⟨#[]⟩,.string ⟨#[]⟩,.string ⟨#[]⟩,.string ⟨#[]⟩,.bool false,.int .i64 0])
 clear hs h1 hn
 unfold cmV
 go_enter Tryz.func82,Tryz.ntmps82
 go_wp2_with fail
 go_ret
 exact⟨YS15,HM0.out.b⟩
theorem may_big (c:Cm)(sv:Value)(w:World)(hs:RdS w sv c.sco)(hb:32<c.sco.length∧c.sco.length≤8796093022208):
 Calls Tryz.prog 82 #[cmV c sv] w fun e w'=>e= .returned (.bool (mayC c))∧Below w.heap.size w w':=by
 have hn:c.sco≠ []:=fun e=>by rw[e] at hb;simp at hb
 by_cases hk:1≤c.kd∧c.kd≤7
 ·rcases(by omega:c.kd=1∨c.kd=2∨c.kd=3∨c.kd=4∨c.kd=5∨c.kd=6∨c.kd=7) with h|h|h|h|h|h|h
  ·exact may_b1 c sv w h hs hb
  ·exact may_b2 c sv w h hn hs
  ·exact may_b3 c sv w h hs hb
  ·exact may_b4 c sv w h hs hb
  ·exact may_b5 c sv w h hn hs
  ·exact may_b6 c sv w h hn hs
  ·exact may_b7 c sv w h hn hs
 ·exact may_o c sv w hk hs
end Go.Proofs.YtdmjegelcdghlaaGreat.Gr
namespace Go.Proofs.YtdmjegelcdghlaaGreat.Vw
open Go.RowKit Go.Maps
theorem mayO_big (o:Op)(u:Value)(w:World)(hs:RdS w u o.c.sco)(hc:32<o.c.sco.length∧o.c.sco.length≤8796093022208):
 Calls Tryz.prog 47 #[opV o u] w fun e w'=>e= .returned (.bool (mayO o))∧Below w.heap.size w w':=by
 obtain⟨ua,uc,eu⟩:=hs.1.slice
 subst eu
 have HM:=Lib.hid (fun W (hb:Below w.heap.size w W)=>Gr.may_big o.c (.slice ua o.c.sco.length uc) W (rdS_low hs fun h0 g hg hlt=>hb.block g hlt) hc)
 clear hs hc
 unfold opV
 unfold Gr.cmV at HM
 go_enter Tryz.func47,Tryz.ntmps47
 go_upto_region 1 with fail
 by_cases h1:o.ed<0
 ·have HN:=Lib.hid (mayO_no (.inl h1))
  exact YS4
 by_cases h2:32≤o.ed
 ·have HN:=Lib.hid (mayO_no (.inr (.inl h2)))
  exact YS4
 by_cases h3:o.sq<0
 ·have HN:=Lib.hid (mayO_no (.inr (.inr (.inl h3))))
  exact YS4
 by_cases h4:1099511627776<o.sq
 ·have HN:=Lib.hid (mayO_no (.inr (.inr (.inr (.inl h4)))))
  exact YS4
 by_cases h5:o.lo<0
 ·have HN:=Lib.hid (mayO_no (.inr (.inr (.inr (.inr (.inl h5))))))
  exact YS4
 by_cases h6:o.sq<o.lo
 ·have HN:=Lib.hid (mayO_no (.inr (.inr (.inr (.inr (.inr (.inl h6)))))))
  exact YS4
 go_wp2_with fail
 refine(HM.out _ ((Below.refl _ _).alloc (Nat.le_refl _) _)).mono ?_
 rintro e w3 ⟨rfl,hb3⟩
 have hx1:Below w.heap.size w (w.alloc (.cells #[.int .i64 o.ed,.int .i64 o.sq,.int .i64 o.lo,.int .i64 o.c.kd,.string ⟨o.c.fam.toArray⟩,.int .i64 o.c.ser,.int .i64 o.c.tok,.string ⟨o.c.cli.toArray⟩,.string ⟨o.c.usr.toArray⟩,.slice ua o.c.sco.length uc,.string ⟨o.c.red.toArray⟩,.string ⟨o.c.cha.toArray⟩,.string ⟨o.c.met.toArray⟩,.string ⟨o.c.ver.toArray⟩,.bool o.c.rf,.int .i64 o.c.edg] 26)):=(Below.refl _ _).alloc (Nat.le_refl _) _
 have HB3:=Lib.hid (hx1.trans (hb3.mono hx1.size))
 have hk:=Blk.new w 26 [.int .i64 o.ed,.int .i64 o.sq,.int .i64 o.lo,.int .i64 o.c.kd,.string ⟨o.c.fam.toArray⟩,.int .i64 o.c.ser,.int .i64 o.c.tok,.string ⟨o.c.cli.toArray⟩,.string ⟨o.c.usr.toArray⟩,.slice ua o.c.sco.length uc,.string ⟨o.c.red.toArray⟩,.string ⟨o.c.cha.toArray⟩,.string ⟨o.c.met.toArray⟩,.string ⟨o.c.ver.toArray⟩,.bool o.c.rf,.int .i64 o.c.edg]
 have hk3:=hk.below hb3 hk.lt
 have y0:=hk3.cell 0 rfl
 have y1:=hk3.cell 1 rfl
 have y3:=hk3.cell 3 rfl
 clear hb3 hx1 hk hk3 HM
 cases hmc:Gr.mayC o.c
 ·have HN:=Lib.hid (mayO_no (o:=o) (.inr (.inr (.inr (.inr (.inr (.inr hmc)))))))
  clear y0 y1 y3
  go_wp2_with fail
  go_ret
  exact⟨by rw[HN.out]<;>rfl,HB3.out⟩
 have hy:=mayO_yes (o:=o) YS5 YS5 YS5 YS5 YS5 YS5 hmc
 clear h1 h2 h3 h4 h5 h6
 by_cases hq:o.sq=0
 ·rw[if_pos hq] at hy
  by_cases hk7:o.c.kd=7
  ·by_cases he:o.ed=0
   ·rw[hk7,he] at hy
    exact YS7
   ·rw[decide_eq_false he,Bool.and_false] at hy
    have HN:=Lib.hid hy
    clear hy
    go_wp2_with fail
    go_ret
    exact⟨by rw[HN.out];show Ending.returned (.bool (o.ed==0))=_;rw[beq_eq_false_iff_ne.2 he],HB3.out⟩
  ·rw[decide_eq_false hk7,Bool.false_and] at hy
   exact YS7
 ·rw[if_neg hq] at hy
  by_cases hk7:o.c.kd=7
  ·rw[decide_eq_false (fun h=>h hk7)] at hy
   exact YS7
  ·rw[decide_eq_true hk7] at hy
   have HN:=Lib.hid hy
   clear hy
   go_wp2_with fail
   go_ret
   exact⟨by rw[HN.out];show Ending.returned (.bool (o.c.kd !=7))=_;rw[bne_iff_ne.2 hk7],HB3.out⟩
theorem mayO_len {o:Op}(h:mayO o=true):o.c.sco.length≤32:=by
 by_cases hb:32<o.c.sco.length
 ·have h1:Gr.mayC o.c=false:=by unfold Gr.mayC;simp[Gr.setC_big hb]
  unfold mayO at h
  simp[h1] at h
 ·omega
theorem ask_big {i:Nat}{c:Lb}{r:Rp Op}(o:Op)(u:Value)(p:Nat)(w:World)(h:RV i c w p r)(hu:RdS w u o.c.sco)(hb:32<o.c.sco.length∧o.c.sco.length≤8796093022208):
 Calls Tryz.prog 11 #[.pointer (some ⟨p,0,none⟩),opV o u] w fun e w'=>e= .returned (.tuple #[.int .i64 0,.int .i64 1])∧Mt (Fi i) i c w w' p r:=by
 obtain⟨ua,uc,eu⟩:=hu.1.slice
 subst eu
 have HH:=Lib.hid h
 have HMF:Hid (mayO o=false):=Lib.hid (by
  cases hm:mayO o
  ·rfl
  ·have:=mayO_len hm;omega)
 have HM:=Lib.hid (fun W (hB:Below w.heap.size w W)=>mayO_big o (.slice ua o.c.sco.length uc) W (rdS_low hu fun h0 g hg hlt=>hB.block g hlt) hb)
 rw[HMF.out] at HM
 clear h hu hb HMF
 unfold opV at HM⊢
 go_enter Tryz.func11,Tryz.ntmps11
 go_upto_region 3 with fail
 obtain⟨w1,hw1⟩: ∃w1,w1=w.alloc (.cells #[.int .i64 o.ed,.int .i64 o.sq,.int .i64 o.lo,.int .i64 o.c.kd,.string ⟨o.c.fam.toArray⟩,.int .i64 o.c.ser,.int .i64 o.c.tok,.string ⟨o.c.cli.toArray⟩,.string ⟨o.c.usr.toArray⟩,.slice ua o.c.sco.length uc,.string ⟨o.c.red.toArray⟩,.string ⟨o.c.cha.toArray⟩,.string ⟨o.c.met.toArray⟩,.string ⟨o.c.ver.toArray⟩,.bool o.c.rf,.int .i64 o.c.edg] 26):=⟨_,rfl⟩
 obtain⟨b3,hb3⟩: ∃b3,b3=w.heap.size:=⟨_,rfl⟩
 have HB1:Hid (Below w.heap.size w w1):=Lib.hid (by rw[hw1];exact(Below.refl _ _).alloc (Nat.le_refl _) _)
 have HM1:Hid (Blk w1 b3 26 [.int .i64 o.ed,.int .i64 o.sq,.int .i64 o.lo,.int .i64 o.c.kd,.string ⟨o.c.fam.toArray⟩,.int .i64 o.c.ser,.int .i64 o.c.tok,.string ⟨o.c.cli.toArray⟩,.string ⟨o.c.usr.toArray⟩,.slice ua o.c.sco.length uc,.string ⟨o.c.red.toArray⟩,.string ⟨o.c.cha.toArray⟩,.string ⟨o.c.met.toArray⟩,.string ⟨o.c.ver.toArray⟩,.bool o.c.rf,.int .i64 o.c.edg]):=Lib.hid (by rw[hw1,hb3];exact Blk.new w 26 _)
 have HB3:Hid (b3=w.heap.size):=Lib.hid hb3
 rw[←hw1,←hb3]
 clear hw1 hb3
 have q0:=HM1.out.cell 0 rfl
 have q1:=HM1.out.cell 1 rfl
 have q2:=HM1.out.cell 2 rfl
 have q3:=HM1.out.cell 3 rfl
 have q4:=HM1.out.cell 4 rfl
 have q5:=HM1.out.cell 5 rfl
 have q6:=HM1.out.cell 6 rfl
 have q7:=HM1.out.cell 7 rfl
 have q8:=HM1.out.cell 8 rfl
 have q9:=HM1.out.cell 9 rfl
 have q10:=HM1.out.cell 10 rfl
 have q11:=HM1.out.cell 11 rfl
 have q12:=HM1.out.cell 12 rfl
 have q13:=HM1.out.cell 13 rfl
 have q14:=HM1.out.cell 14 rfl
 have q15:=HM1.out.cell 15 rfl
 go_wp2_with fail
 refine(HM.out _ HB1.out).mono ?_
 rintro e w2 ⟨rfl,hb2⟩
 have HB2:=Lib.hid (HB1.out.trans (hb2.mono HB1.out.size))
 have HM2:=Lib.hid (HM1.out.below hb2 HM1.out.lt)
 clear hb2 q0 q1 q2 q3 q4 q5 q6 q7 q8 q9 q10 q11 q12 q13 q14 q15
 go_wp2_with fail
 go_ret2
 exact⟨rfl,⟨c,Lx.refl _ _,Fr.of_below HB2.out,HH.out.below (Lx.refl _ _) HB2.out⟩⟩
variable {O:Type}
def KI (n:Nat)(h:Gh O)(vw:Nat→Nat)(v l:Nat→Nat):Prop:= ∀k,k<n→v k≤vw k∧l k≤h.A (v k) k
theorem KI.gon {n:Nat}{h h':Gh O}{g g':Gp O}{v l:Nat→Nat}(K:KI n h (fun k=>(g.r k).vw) v l)(G:Gon n h h' g g'):KI n h' (fun k=>(g'.r k).vw) v l:=fun k hk=>
 ⟨Nat.le_trans (K k hk).1 (G.vv k hk),Nat.le_trans (K k hk).2 (G.ee.a _ _)⟩
open Go.RowKit Go.Maps
def nB (n:Nat)(v:Nat→Nat):List Value:=(List.range n).map fun k=> .int .i64 (v k:Int)
theorem nB_at {n:Nat}(v:Nat→Nat){i:Nat}(hi:i<n):(nB n v)[i]?=some (.int .i64 (v i:Int)):=by
 unfold nB
 rw[List.getElem?_map,List.getElem?_range hi];rfl
theorem nB_set {n:Nat}(v:Nat→Nat){i:Nat}(hi:i<n)(x:Nat):(nB n v).set i (.int .i64 (x:Int))=nB n (upd v i x):=by
 refine List.ext_getElem? fun j=> ?_
 rw[List.getElem?_set]
 have hl:(nB n v).length=n:=by simp[nB]
 by_cases hj:j<n
 ·by_cases e:i=j
  ·subst e
   rw[if_pos rfl,if_pos YS5,nB_at _ hj,upd_same]
  ·rw[if_neg e,nB_at _ hj,nB_at _ hj,upd_ne _ _ (Ne.symm e)]
 ·have h1: ∀u:Nat→Nat,(nB n u)[j]?=none:=fun u=>List.getElem?_eq_none (by simp[nB];omega)
  rw[h1,h1]
  by_cases e:i=j
  ·omega
  ·rw[if_neg e]
theorem LW.side {w W W':World}{gp e N:Nat}{l:List Ev}{v:Value}{c c':Lb}{h:Gh Op}{g:Gp Op}(L:LW w W gp l v e c N h g)(hx:Lx W c c')(hf:Fr (fun l=>l=301) c W W'):LW w W' gp l v e c' N h g:=
 ⟨L.lx.trans hx L.b.size,L.b.trans (hf.below L.b.size fun j hj e=>by rw[L.lx j hj] at e;have e2:(300:Nat)=301:=e;omega),L.gv.keep (by have:=L.d.n;omega) hx fun k hk hl=>hf.block k hk fun e=>by rw[e] at hl;unfold Gl at hl;omega,L.d,L.s.fr evE_ok hx hf fun k hk e=>by
  rcases hk with hk|hk
  ·have h1:k=300:=hk
   omega
  ·omega⟩
structure KV (c:Lb)(W:World)(bv bl n:Nat)(v lst:Nat→Nat):Prop where
 v:Blk W bv 3 (nB n v)
 l:Blk W bl 3 (nB n lst)
 ne:bv≠bl
 lv:c bv=301
 ll:c bl=301
theorem KV.next {c c':Lb}{W W':World}{bv bl n:Nat}{v lst:Nat→Nat}(K:KV c W bv bl n v lst)(hx:Lx W c c')(hf:Fr Fg c W W'):KV c' W' bv bl n v lst:=
 ⟨(hf.block bv K.v.lt (by rw[K.lv];unfold Fg;omega)).trans K.v,(hf.block bl K.l.lt (by rw[K.ll];unfold Fg;omega)).trans K.l,K.ne,(hx bv K.v.lt).trans K.lv,(hx bl K.l.lt).trans K.ll⟩
theorem KV.below {c:Lb}{W W':World}{bv bl n:Nat}{v lst:Nat→Nat}(K:KV c W bv bl n v lst)(hb:Below W.heap.size W W'):KV c W' bv bl n v lst:=
 ⟨K.v.below hb K.v.lt,K.l.below hb K.l.lt,K.ne,K.lv,K.ll⟩
structure KW2 (w W:World)(gp:Nat)(l:List Ev)(vv:Value)(e:Nat)(c:Lb)(N:Nat)(h:Gh Op)(g:Gp Op)(bv bl n:Nat)(v lst:Nat→Nat):Prop where
 w:LW w W gp l vv e c N h g
 k:KV c W bv bl n v lst
 i:KI n h (fun k=>(g.r k).vw) v lst
 n:g.n=n
theorem KW2.new {w W:World}{gp e N bv bl n:Nat}{l:List Ev}{vv:Value}{c:Lb}{h:Gh Op}{g:Gp Op}{v lst:Nat→Nat}(K:KW2 w W gp l vv e c N h g bv bl n v lst)(o:Obj): ∃c',KW2 w (W.alloc o) gp l vv e c' N h g bv bl n v lst∧c' W.heap.size=301∧Lx W c c':=by
 have hb:Below W.heap.size W (W.alloc o):=(Below.refl _ _).alloc (Nat.le_refl _) _
 have hx:Lx W c (fun j=>if j<W.heap.size then c j else 301):=fun j hj=>if_pos hj
 refine⟨_,⟨K.w.side hx (Fr.of_below hb),⟨K.k.v.below hb K.k.v.lt,K.k.l.below hb K.k.l.lt,K.k.ne,(hx bv K.k.v.lt).trans K.k.lv,(hx bl K.k.l.lt).trans K.k.ll⟩,K.i,K.n⟩,if_neg (Nat.lt_irrefl _),hx⟩
theorem KW2.below {w W W':World}{gp e N bv bl n:Nat}{l:List Ev}{vv:Value}{c:Lb}{h:Gh Op}{g:Gp Op}{v lst:Nat→Nat}(K:KW2 w W gp l vv e c N h g bv bl n v lst)(hb:Below W.heap.size W W'):KW2 w W' gp l vv e c N h g bv bl n v lst:=
 ⟨K.w.below hb,K.k.below hb,K.i,K.n⟩
theorem KW2.sets {w W:World}{gp e N bv bl n:Nat}{l:List Ev}{vv:Value}{c:Lb}{h:Gh Op}{g:Gp Op}{v lst v2 lst2:Nat→Nat}(K:KW2 w W gp l vv e c N h g bv bl n v lst){W':World}(hx:W'.os=W.os∧W'.tape=W.tape∧W'.output=W.output∧W'.heap.size=W.heap.size)(hf: ∀k,k≠bv→k≠bl→W'.heap[k]?=W.heap[k]?)
 (h1:Blk W' bv 3 (nB n v2)) (h2:Blk W' bl 3 (nB n lst2)) (hi:KI n h (fun k=>(g.r k).vw) v2 lst2):KW2 w W' gp l vv e c N h g bv bl n v2 lst2:=by
 have hfr:Fr (fun l=>l=301) c W W':=⟨hx.1,hx.2.1,hx.2.2.1,by rw[hx.2.2.2];exact Nat.le_refl _,fun k hk hn=>hf k (fun e=>hn (by rw[e];exact K.k.lv)) (fun e=>hn (by rw[e];exact K.k.ll))⟩
 exact⟨K.w.side (Lx.refl _ _) hfr,⟨h1,h2,K.k.ne,K.k.lv,K.k.ll⟩,hi,K.n⟩
theorem wpList_storeM {P:Program}{ops:Array Oper}{rest:List Oper}{o:Oper}{a:Act}{w:World}{Q:Exit→Act→World→Prop}(hgd:o.guard=none)(ty:TypeId)(x y:Operand)(ho:o.op= .store ty x y)
 (g:Nat) (cs:List Value) (hx:a.eval x= .pointer (some ⟨g,0,none⟩)) (hy:a.eval y= .agg cs.toArray)
 (t:TypeId) (old:List Value) (hg:Blk w g t old) (hi:(P.info? ty).map (·.size)=some cs.length)
 (hold:old.length=cs.length) (h1: ∀u∈cs,u.oneCell'=true)
 (h: ∀w',Blk w' g t cs→w.grownBy w' (some g)→wpList P ops Q rest (a.put o.dst undef) w'):wpList P ops Q (o::rest) a w:=by
 refine wpList_store_row hgd ty x y ho g cs.toArray hx hy t old.toArray hg (by simpa using hi) (by simpa using hold) ?_ ?_
 ·rw[Array.all_eq_true_iff_forall_mem]
  intro u hu
  exact h1 u (by simpa using hu)
 ·refine h _ ?_ ?_
  ·exact setRow_heap w g _ cs.toArray t _ hg
  ·exact⟨rfl,rfl,rfl,by simp[World.setRow],fun k hk hne=>setRow_other w g k _ (fun e=>hne (by rw[e]))⟩
theorem KI.up {n N:Nat}{ok:Op→Bool}{h:Gh Op}{vw v l:Nat→Nat}(K:KI n h vw v l){x:Sd Op}(hx:MI n ok h vw x):KI n h vw (upd v x.m.fr x.m.vw) (upd l x.m.fr 0):=by
 intro k hk
 by_cases e:k=x.m.fr
 ·rw[e,upd_same,upd_same]
  exact⟨hx.vv,Nat.zero_le _⟩
 ·rw[upd_ne _ _ e,upd_ne _ _ e]
  exact K k hk
theorem KW2.put {w W:World}{gp e N bv bl n:Nat}{l:List Ev}{vv:Value}{c:Lb}{h:Gh Op}{g:Gp Op}{v lst:Nat→Nat}(K:KW2 w W gp l vv e c N h g bv bl n v lst){fr:Nat}(hf:fr<n)(x y:Nat)(hi:KI n h (fun k=>(g.r k).vw) (upd v fr x) (upd lst fr y)):
 KW2 w ((W.setCell ⟨bv,fr,none⟩ (.int .i64 (x:Int))).setCell ⟨bl,fr,none⟩ (.int .i64 (y:Int))) gp l vv e c N h g bv bl n (upd v fr x) (upd lst fr y):=by
 refine K.sets ⟨rfl,rfl,rfl,by rw[World.size_setCell,World.size_setCell]⟩ (fun k h1 h2=> ?_) ?_ ?_ hi
 ·rw[Below.heap_setCell _ _ _ _ h2,Below.heap_setCell _ _ _ _ h1]
 ·have h1:=K.k.v.set fr (.int .i64 (x:Int))
  rw[nB_set v hf] at h1
  exact h1.setOther _ _ K.k.ne
 ·have h1:=(K.k.l.setOther ⟨bv,fr,none⟩ (.int .i64 (x:Int)) (Ne.symm K.k.ne)).set fr (.int .i64 (y:Int))
  rw[nB_set lst hf] at h1
  exact h1
def stC (r:Rp Op):List Value:= [.int .i64 (r.id:Int),.int .i64 (r.n:Int),.int .i64 (r.st:Int),.int .i64 (r.vw:Int),.int .i64 (r.nr:Int),.int .i64 (r.bs:Int),.int .i64 (r.td:Int),.int .i64 (r.cm:Int),.int .i64 (r.sb:Int),.int .i64 (r.ls:Int)]
def zeroS:List Value:= [.int .i64 0,.int .i64 0,.int .i64 0,.int .i64 0,.int .i64 0,.int .i64 0,.int .i64 0,.int .i64 0,.int .i64 0,.int .i64 0]
theorem st_size (r:Rp Op):(Tryz.prog.info? 39).map (·.size)=some (stC r).length:=by kernel_rfl
theorem st_one (r:Rp Op): ∀u∈stC r,u.oneCell'=true:=by
 intro u hu
 unfold stC at hu
 simp only[List.mem_cons,List.not_mem_nil,or_false] at hu
 rcases hu with rfl|rfl|rfl|rfl|rfl|rfl|rfl|rfl|rfl|rfl<;>rfl
end Go.Proofs.YtdmjegelcdghlaaGreat.Vw
namespace Go.Proofs.YtdmjegelcdghlaaGreat
theorem YS14 {p:Prop}(h:p:=by have:=HI.out;simp[intOf];omega):p:=h
theorem YS10 {p:Prop}(h:p:=by refine Or.inl ⟨by rfl,?_⟩;intro W hSw;(try dsimp only at hSw);(have q0:=hSw.out.1;have q1:=hSw.out.2.1;clear hSw);go_simp;(try with_reducible rfl)):p:=h
theorem YS8 {p:Prop}(h:p:=by refine Or.inl ⟨by rfl,?_⟩;intro W hSw;(try dsimp only at hSw);(have y5:=(HBG.out.below hSw HBG.out.lt).cell 5 rfl);(clear hSw);go_simp;(try with_reducible rfl)):p:=h
theorem YS1 {p:Prop}(h:p:=by refine Or.inl ⟨by rfl,?_⟩;intro W hSw;(try dsimp only at hSw);go_simp;(try with_reducible rfl)):p:=h
end Go.Proofs.YtdmjegelcdghlaaGreat
namespace Go.Proofs.YtdmjegelcdghlaaGreat.Vw
open Go.RowKit Go.Maps
structure SnO (c:Lb)(W:World)(bx:Nat)(u:Value)(o:Op):Prop where
 b:Blk W bx 26 (opC o u)
 l:c bx=300
 x:TxW 300 c W u o
theorem SnO.next {c c':Lb}{W W':World}{bx:Nat}{u:Value}{o:Op}(h:SnO c W bx u o)(hx:Lx W c c')(hf:Fr Fg c W W'):SnO c' W' bx u o:=
 ⟨(hf.block bx h.b.lt (by rw[h.l];unfold Fg;omega)).trans h.b,(hx bx h.b.lt).trans h.l,(opW_ok 300).keep _ _ _ _ _ _ h.x hx fun j hj hl=>hf.block j hj (by rw[show c j=300 from hl];unfold Fg;omega)⟩
theorem SnO.below {c:Lb}{W W':World}{bx:Nat}{u:Value}{o:Op}(h:SnO c W bx u o)(hb:Below W.heap.size W W'):SnO c W' bx u o:=h.next (Lx.refl _ _) (Fr.of_below hb)
structure SnR (w W:World)(gp:Nat)(c:Lb)(N B:Nat)(h:Gh Op)(g:Gp Op)(bx:Nat)(u:Value)(o:Op):Prop where
 lx:Lx w (fun _=>300) c
 b:Below w.heap.size w W
 gv:GV c W gp g
 d:RD N B h g
 ob:SnO c W bx u o
theorem SnR.below {w W W':World}{gp N B bx:Nat}{c:Lb}{h:Gh Op}{g:Gp Op}{u:Value}{o:Op}(S:SnR w W gp c N B h g bx u o)(hb:Below W.heap.size W W'):SnR w W' gp c N B h g bx u o:=
 ⟨S.lx,S.b.trans (hb.mono S.b.size),S.gv.below (by have:=S.d.n;omega) hb,S.d,S.ob.below hb⟩
theorem SnR.next {w W W':World}{gp N B N' B' bx:Nat}{c:Lb}{h h':Gh Op}{g g':Gp Op}{u:Value}{o:Op}(S:SnR w W gp c N B h g bx u o)(hm:Mg c W W' gp g')(D:RD N' B' h' g'): ∃c',SnR w W' gp c' N' B' h' g' bx u o:=by
 obtain⟨c',hx,hf,hv⟩:=hm
 exact⟨c',S.lx.trans hx S.b.size,S.b.trans (hf.below S.b.size fun j hj e=>by rw[S.lx j hj] at e;have e2:Fg 300:=e;unfold Fg at e2;omega),hv,D,S.ob.next hx hf⟩
theorem LW.snr {w W:World}{gp N e bx:Nat}{l:List Ev}{v:Value}{c:Lb}{h:Gh Op}{g:Gp Op}{u:Value}{o:Op}(L:LW w W gp l v e c N h g)(O:SnO c W bx u o):SnR w W gp c N 30000 h g bx u o:=
 ⟨L.lx,L.b,L.gv,L.d.rd,O⟩
theorem viewSoon_walk (n:Int)(v:Value)(l:List Ev)(o:Op)(ua:Option Addr)(uc:Nat)(w:World)(hs:SlR evE (fun _=>300) 300 w v l)(hl:l.length≤4611686018427387904)(hu:TxW 300 (fun _=>300) w (.slice ua o.c.sco.length uc) o)(hc:CmS o.c):
 Calls Tryz.prog 5 #[.int .i64 n,v,.agg #[.int .i64 o.ed,.int .i64 o.sq,.int .i64 o.lo,.int .i64 o.c.kd,.string ⟨o.c.fam.toArray⟩,.int .i64 o.c.ser,.int .i64 o.c.tok,.string ⟨o.c.cli.toArray⟩,.string ⟨o.c.usr.toArray⟩,.slice ua o.c.sco.length uc,.string ⟨o.c.red.toArray⟩,.string ⟨o.c.cha.toArray⟩,.string ⟨o.c.met.toArray⟩,.string ⟨o.c.ver.toArray⟩,.bool o.c.rf,.int .i64 o.c.edg]] w fun e w'=>e= .returned (.bool true)∧Below w.heap.size w w':=by
 obtain⟨va,vc,ev⟩:=hs.slice
 subst ev
 have HS:=Lib.hid (And.intro hs (And.intro hl (And.intro hu hc)))
 clear hs hl hu hc
 go_enter Tryz.func5,Tryz.ntmps5
 go_upto_region 1 with fail
 obtain⟨w0,hw0⟩: ∃w0,w0=w.alloc (.cells #[.int .i64 o.ed,.int .i64 o.sq,.int .i64 o.lo,.int .i64 o.c.kd,.string ⟨o.c.fam.toArray⟩,.int .i64 o.c.ser,.int .i64 o.c.tok,.string ⟨o.c.cli.toArray⟩,.string ⟨o.c.usr.toArray⟩,.slice ua o.c.sco.length uc,.string ⟨o.c.red.toArray⟩,.string ⟨o.c.cha.toArray⟩,.string ⟨o.c.met.toArray⟩,.string ⟨o.c.ver.toArray⟩,.bool o.c.rf,.int .i64 o.c.edg] 26):=⟨_,rfl⟩
 obtain⟨bx,hbx⟩: ∃bx,bx=w.heap.size:=⟨_,rfl⟩
 have HB0:Hid (Below w.heap.size w w0):=Lib.hid (by rw[hw0];exact(Below.refl _ _).alloc (Nat.le_refl _) _)
 have HO0:Hid (SnO (fun _=>300) w0 bx (.slice ua o.c.sco.length uc) o):=Lib.hid ⟨by rw[hw0,hbx];exact Blk.new w 26 (opC o (.slice ua o.c.sco.length uc)),rfl,(opW_ok 300).keep _ _ _ _ _ _ HS.out.2.2.1 (Lx.refl w _) fun j hj _=>HB0.out.block j hj⟩
 have HS0:Hid (SlR evE (fun _=>300) 300 w0 (.slice va l.length vc) l):=Lib.hid (HS.out.1.keep evE_ok (Lx.refl w _) fun j hj _=>HB0.out.block j hj)
 have HZ:=Lib.hid (size_any n w0)
 rw[←hw0,←hbx]
 clear hw0 hbx
 go_wp2_with fail
 refine HZ.out.mono ?_
 rintro e w1 ⟨m,hm1,hm5,rfl,rfl⟩
 have HM:=Lib.hid (And.intro hm1 hm5)
 have HMD:=Lib.hid (made_any m (fun _=>300) w1 ⟨hm1,hm5⟩ (fun _ _=>by decide))
 clear HZ hm1 hm5
 go_wp2_with fail
 refine HMD.out.mono ?_
 rintro e w2 ⟨gp,rfl,hgp,hb2,c2,hx2,hv2⟩
 obtain⟨h0,hd0⟩:=DI.zero m HM.out
 have HL2:=Lib.hid (show LW w1 w2 gp l (.slice va l.length vc) 0 c2 0 h0 (gp0 m) from⟨hx2,hb2,hv2,hd0,(HS0.out.keep evE_ok hx2 fun j hj _=>hb2.block j hj)⟩)
 have HO2:=Lib.hid (HO0.out.next hx2 (Fr.of_below hb2))
 have HKN:=Lib.hid (known_any w2)
 clear HMD hgp hb2 hx2 hv2 hd0
 go_wp2_with fail
 refine HKN.out.mono ?_
 rintro e w3 ⟨rfl,hb3⟩
 have HL3:=Lib.hid (And.intro (HL2.out.below hb3) (HO2.out.below hb3))
 clear HL2 HKN hb3 HO2 HO0 HS0
 go_wp2_with fail
 go_loopw [8] (fun iv wr=> ∃k:Nat,k≤l.length∧k≤150∧iv= .int .i64 (k:Int)∧ ∃c N h g,LW w1 wr gp l (.slice va l.length vc) k c N h g∧SnO c wr bx (.slice ua o.c.sco.length uc) o) (fun iv _=>l.length-(intOf iv).toNat)
 case atStart=>exact⟨0,Nat.zero_le _,Nat.zero_le _,rfl,_,_,_,_,HL3.out⟩
 case round=>
  obtain⟨k,hk,hk150,rfl,c,N,h,g,hlw,hob⟩:=hrel
  have HL:=Lib.hid hlw
  have HO:=Lib.hid hob
  have HKM:=Lib.hid hk150
  clear hlw hob HL3 hk150
  go_upto_region 5 with fail
  go_cut [34] from 27 to 56 (fun t wx=>wr=wx∧ ∃b:Bool,t= .bool b∧(b=true→k<l.length∧k<150))
  case first=>
   by_cases hkl:k<l.length
   case neg=>
    have t1: ¬(k:Int)<(l.length:Int):=by omega
    clear hk hkl
    go_wp2_with fail
    go_meet
    exact⟨rfl,false,rfl,fun e=>by cases e⟩
   case pos=>
   have t1:(k:Int)<(l.length:Int):=by omega
   by_cases hk2:k<150
   case neg=>
    have t2: ¬(k:Int)<150:=by omega
    clear hk hkl hk2
    go_wp2_with fail
    go_meet
    exact⟨rfl,false,rfl,fun e=>by cases e⟩
   case pos=>
    have t2:(k:Int)<150:=by omega
    have HH:=Lib.hid (And.intro hkl hk2)
    clear hk hkl hk2
    go_wp2_with fail
    go_meet
    exact⟨rfl,true,rfl,fun _=>HH.out⟩
  case rest=>
  obtain⟨hwc,b,rfl,hb⟩:=hcut
  subst hwc
  have HKB:=Lib.hid hb
  clear hb hk
  cases b
  case true=>as_aux_lemma=>
   obtain⟨hkl,hk2⟩:=HKB.out rfl
   have t1:(k:Int)<(l.length:Int):=by omega
   have t2:(k:Int)<150:=by omega
   obtain⟨x,hx⟩: ∃x,l[k]?=some x:=⟨_,List.getElem?_eq_getElem hkl⟩
   obtain⟨b,off,cap,ev,hea,hb,hcl⟩:=ev_cells HL.out.s hx
   cases ev
   have HX:=Lib.hid (And.intro hb hcl)
   have HEA:=Lib.hid hea
   have HKL:=Lib.hid (And.intro hkl hk2)
   have HGT:Hid (Calls Tryz.prog 25 #[.agg (evC x).toArray] wr fun e w'=>e= .returned (.bool (greatE x.o x.m.ops))∧Below wr.heap.size wr w'):=Lib.hid (great_any (li:=300) (lo:=300) x.ek x.ew x.ep x.o x.oa x.oc x.m (.slice x.ma x.m.ops.length x.mc) wr hea.m (Nat.le_trans hea.o.sz (by decide)) hea.l)
   have HSZ:=Lib.hid (ev_size x)
   clear hx hea hb hcl hkl hk2
   go_wp2_with (refine wpList_load_mid rfl 62 (.tmp 39) rfl b (off+k*28) rfl (evC x) _ HX.out.2 Tryz.underlying62 rfl HSZ.out ?_)
   refine HGT.out.mono ?_
   rintro e w4 ⟨rfl,hb4⟩
   have HB4:=Lib.hid hb4
   have HL4:=Lib.hid (And.intro (HL.out.below hb4) (HO.out.below hb4))
   clear hb4 HGT
   cases hg:greatE x.o x.m.ops
   case true=>
    go_wp2_with fail
    go_ret
    exact⟨rfl,HB0.out.trans (HL4.out.1.b.mono HB0.out.size)⟩
   case false=>
   have HG:=Lib.hid hg
   clear hg
   have z0:w4.cell? ⟨b,off+k*28,none⟩=some (.int .i64 x.ek):=(range_below HX.out.2 HB4.out HX.out.1) 0 _ rfl
   have HX4:=Lib.hid (range_below HX.out.2 HB4.out HX.out.1)
   by_cases h7:x.ek=7
   case pos=>
    have k7:(x.ek !=7)=false:=by simp[h7]
    go_wp2_with fail
    have h4:=HKL.out
    exact⟨⟨k+1,h4.1,h4.2,rfl,_,_,_,_,HL4.out.1.up YS5,HL4.out.2⟩,by simp[intOf];omega⟩
   case neg=>
    have k7:(x.ek !=7)=true:=by simp[h7]
    have HD:Hid (Calls Tryz.prog 26 #[.pointer (some ⟨gp,0,none⟩),.agg (evC x).toArray] w4 fun e' w'=>e'= .returned (.bool true)∧ ∃g',Mg c w4 w' gp g'∧DG k h g g'):=Lib.hid (do_any x.ek x.ew x.ep x.o x.oa x.oc x.m x.ma x.mc w4 HL4.out.1.gv HL4.out.1.d (by have:=HKL.out;omega) ((evE_ok.keep _ _ _ _ undef x HEA.out (Lx.refl wr c) fun j hj _=>HB4.out.block j hj:EvA c w4 x).tx HG.out) (by unfold Fg;omega))
    clear h7
    go_wp2_with (refine wpList_loadW rfl 62 (.tmp 52) rfl b (off+k*28) rfl (evC x) _ HX4.out Tryz.underlying62 rfl HSZ.out ?_)
    refine HD.out.mono ?_
    rintro e w5 ⟨rfl,g5,hm5,h5,N5,hd5,hg5⟩
    have HL5:=Lib.hid (HL4.out.1.next hm5 hd5)
    clear HD hm5 hd5 hg5 z0
    go_wp2_with fail
    have h4:=HKL.out
    obtain⟨c5,h6,hx6,hf6⟩:=HL5.out
    exact⟨⟨k+1,h4.1,h4.2,rfl,_,_,_,_,h6,HL4.out.2.next hx6 hf6⟩,by simp[intOf];omega⟩
  case false=>as_aux_lemma=>
   clear HKB
   have HR0:=Lib.hid (HL.out.snr HO.out)
   have HQ0:=Lib.hid (HL.out.d.ev.snq HKM.out)
   have HNB:Hid (N≤160):=Lib.hid (Nat.le_trans HL.out.d.N HL.out.d.le)
   obtain⟨hp,V,L,hV,hRG,hSF⟩:=HQ0.out.sf HR0.out.d.gi HR0.out.d.N HR0.out.d.n.2
   have HSF:=Lib.hid (And.intro hV (And.intro hRG hSF))
   clear hV hRG hSF HL HO HKM
   go_wp2_with fail
   go_loopw [9] (fun iv wr=> ∃i:Nat,i≤40∧iv= .int .i64 (i:Int)∧ ∃c h,SnR w1 wr gp c N (30000+1600000*i) h (rounds i g) bx (.slice ua o.c.sco.length uc) o∧SnQ (150+i) (rounds i g)) (fun iv _=>40-(intOf iv).toNat)
   case atStart=>exact⟨0,YS5,rfl,_,_,HR0.out,HQ0.out⟩
   case round=>
    obtain⟨i,hi40,rfl,c6,h6,hsr,hrq⟩:=hrel
    have HR:=Lib.hid (And.intro hsr hrq)
    clear hsr hrq HR0 HQ0
    by_cases hi:i<40
    case pos=>
     have t1:(i:Int)<40:=by omega
     have hq1:=HR.out.2.round HR.out.1.d.gi HR.out.1.d.N HR.out.1.d.n.2 YS5
     have HQ1:=Lib.hid hq1.2
     have HRN:=Lib.hid (round_any wr HR.out.1.gv HR.out.1.d YS5 hq1.1)
     have HI:=Lib.hid hi
     clear hq1 hi hi40
     go_wp2_with fail
     refine HRN.out.mono ?_
     rintro e w6 ⟨rfl,hm6,h7,hd7,-⟩
     obtain⟨c7,hs7⟩:=HR.out.1.next hm6 hd7
     have HR7:=Lib.hid hs7
     clear HRN hm6 hd7 hs7
     go_wp2_with fail
     exact⟨⟨i+1,HI.out,rfl,c7,h7,by rw[rounds_succ,show 30000+1600000*(i+1)=30000+1600000*i+1600000 by omega];exact HR7.out,by rw[rounds_succ,show 150+(i+1)=150+i+1 by omega];exact HQ1.out⟩,YS14⟩
    case neg=>
     have t1: ¬(i:Int)<40:=by omega
     have hi4:i=40:=by omega
     have HR8:Hid (SnR w1 wr gp c6 N 64030000 h6 (rounds 40 g) bx (.slice ua o.c.sco.length uc) o):=Lib.hid (by rw[hi4] at HR;exact HR.out.1)
     clear HR hi hi40 hi4
     have hnn:(rounds 40 g).n=g.n:=rounds_n 40 g
     generalize rounds 40 g=g1 at*
     have HSE:=Lib.hid (soon_end HR8.out.d.gi (by have:=HNB.out;omega) HR8.out.d.n.2 HSF.out.2.1 HSF.out.2.2 HSF.out.1 o)
     obtain⟨P,hP⟩: ∃P,P=V % g1.n:=⟨_,rfl⟩
     have HPN:Hid (P<g1.n):=Lib.hid (by rw[hP];exact Nat.mod_lt _ HR8.out.d.n.1)
     rw[←hP] at HSE
     clear hP hnn HSF
     go_wp2_with fail
     go_loopw [10,11] (fun lv iv wx=> ∃(i:Nat) (z:Int),i≤g1.n∧iv= .int .i64 (i:Int)∧lv= .int .i64 z∧z=(if P<i then(P:Int) else-1)∧SnR w1 wx gp c6 N 64030000 h6 g1 bx (.slice ua o.c.sco.length uc) o) (fun _ iv _=>g1.n-(intOf iv).toNat)
     case atStart=>exact⟨0,-1,Nat.zero_le _,rfl,rfl,by rw[if_neg YS5],HR8.out⟩
     case round=>
      obtain⟨i,z,hin,rfl,rfl,hz,hsr⟩:=hrel
      have HR:=Lib.hid hsr
      have HZZ:=Lib.hid hz
      clear hsr hz HR8
      obtain⟨ps,br,cr,bk,ck,bs,cs,wv,bt,ct,ov,ss,hB,hG,hLb,hbr,-⟩:=HR.out.gv.opn HR.out.d.n.1
      have y0:=hB.cell 0 rfl
      have t5:(g1.n:Int)≤5:=by have:=HR.out.d.n.2;omega
      by_cases hi:i<g1.n
      case pos=>
       have t1:(i:Int)<(g1.n:Int):=by omega
       have yp:=(hG.cells (i:=i) hi).1
       have HLD:=Lib.hid (leads_any (i:=i) (ps i) wr (hG.rp i hi) (by have:=HR.out.d.n;have:=(HR.out.d.gi.rep hi).nn;omega))
       have HI:=Lib.hid hi
       clear hB hG hLb hbr hi hin
       go_wp2_with fail
       refine HLD.out.mono ?_
       rintro e w6 ⟨rfl,k6,hk6⟩
       have HR6:Hid (SnR w1 w6 gp c6 N 64030000 h6 g1 bx (.slice ua o.c.sco.length uc) o):=Lib.hid (HR.out.below (by rw[hk6];exact below_drewN (Below.refl _ _) k6))
       clear HLD hk6 y0 yp
       cases hld:leads (g1.r i)
       case true=>
        have hp:i=P:=by
         by_cases e:i=P
         ·exact e
         ·rw[HSE.out.ld.2 i HI.out e] at hld;cases hld
        have hz1:z= -1:=by rw[HZZ.out,if_neg YS5]
        have HP2:=Lib.hid hp
        subst hz1
        clear hp hld
        go_wp2_with fail
        exact⟨⟨i+1,(i:Int),HI.out,rfl,rfl,by rw[if_pos (by have:=HP2.out;omega),HP2.out],HR6.out⟩,YS14⟩
       case false=>
        have hp:i≠P:=fun e=>by rw[e,HSE.out.ld.1] at hld;cases hld
        have HP2:=Lib.hid hp
        clear hp hld
        go_wp2_with fail
        exact⟨⟨i+1,z,HI.out,rfl,rfl,by
         rw[HZZ.out]
         have:=HP2.out
         by_cases e:P<i
         ·rw[if_pos e,if_pos YS5]
         ·rw[if_neg e,if_neg YS5],HR6.out⟩,YS14⟩
      case neg=>as_aux_lemma=>
       have t1: ¬(i:Int)<(g1.n:Int):=by omega
       have hz1:z=(P:Int):=by rw[HZZ.out,if_pos (by have:=HPN.out;omega)]
       subst hz1
       have t6: ¬(P:Int)<0:=by omega
       have tP:(P:Int)<(g1.n:Int):=by have:=HPN.out;omega
       have yp:=(hG.cells (i:=P) HPN.out).1
       obtain⟨kk,hkk⟩: ∃kk:Int,kk=(if askE mayO (g1.r P) o=0 then(((g1.r P).ls+1:Nat):Int) else 0):=⟨_,rfl⟩
       obtain⟨ee,hee⟩: ∃ee:Int,ee=(askE mayO (g1.r P) o:Int):=⟨_,rfl⟩
       obtain⟨r5,hr5⟩: ∃r5,r5=(if askE mayO (g1.r P) o=0 then Vw.ask (g1.r P) o else g1.r P):=⟨_,rfl⟩
       have hrv:=(hG.rp P HPN.out).keep (W':=wr.drew) (Lx.refl wr c6) fun _ _ _=>rfl
       have HAS:Hid (Calls Tryz.prog 11 #[.pointer (some ⟨ps P,0,none⟩),opV o (.slice ua o.c.sco.length uc)] wr.drew fun e w'=>e= .returned (.tuple #[.int .i64 kk,.int .i64 ee])∧Mt (Fi P) P c6 wr.drew w' (ps P) r5):=Lib.hid (by
        by_cases hsz:o.c.sco.length≤32
        ·rw[hkk,hee,hr5]
         exact ask_any (i:=P) (li:=300) o (.slice ua o.c.sco.length uc) (ps P) wr.drew hrv (HR.out.d.gi.li HR.out.d.N (by have:=HR.out.d.n.2;omega) HPN.out) (HR.out.d.gi.hbr HPN.out) ⟨HR.out.ob.x.rd,HR.out.ob.x.lb,HS.out.2.2.2.ok YS5,fun h=>absurd h (by decide)⟩ (by rw[(HR.out.d.gi.em P HPN.out).1];exact Nat.zero_le _)
        ·have hm:mayO o=false:=by
          cases hm:mayO o
          ·rfl
          ·have:=mayO_len hm;omega
         have h1:askE mayO (g1.r P) o=1:=by unfold askE;rw[if_pos hm]
         rw[if_neg YS5] at hkk hr5
         rw[h1] at hee
         rw[hkk,hee,hr5]
         exact ask_big (i:=P) o (.slice ua o.c.sco.length uc) (ps P) wr.drew hrv HR.out.ob.x.rd ⟨YS5,HR.out.ob.x.sz⟩)
       obtain⟨h5,hds⟩:=HR.out.d.ask (by have:=HNB.out;omega) HPN.out o
       rw[←hr5] at hds
       have HDS:=Lib.hid hds
       have HKE:=Lib.hid (And.intro hkk (And.intro hee hr5))
       have HG:=Lib.hid (And.intro hB hG)
       have hbl:=HR.out.gv.lt
       have hfi: ∀lb,200≤lb→ ¬Fi P lb:=fun lb h=>by have:=HPN.out;have:=HR.out.d.n.2;unfold Fi;omega
       have HKP:Hid (∀W,Fr (Fi P) c6 wr W→Hid (W.cell? ⟨gp,0,none⟩=some (.slice (some ⟨br,0,none⟩) g1.n cr)∧W.cell? ⟨br,P,none⟩=some (.pointer (some ⟨ps P,0,none⟩))∧Blk W bx 26 [.int .i64 o.ed,.int .i64 o.sq,.int .i64 o.lo,.int .i64 o.c.kd,.string ⟨o.c.fam.toArray⟩,.int .i64 o.c.ser,.int .i64 o.c.tok,.string ⟨o.c.cli.toArray⟩,.string ⟨o.c.usr.toArray⟩,.slice ua o.c.sco.length uc,.string ⟨o.c.red.toArray⟩,.string ⟨o.c.cha.toArray⟩,.string ⟨o.c.met.toArray⟩,.string ⟨o.c.ver.toArray⟩,.bool o.c.rf,.int .i64 o.c.edg])):=Lib.hid fun W hf=>Lib.hid ⟨(cell_eq (hf.block gp hbl (by rw[hLb.1];exact hfi _ YS5)) 0).trans y0,(cell_eq (hf.block br hbr (by rw[hLb.2.1];exact hfi _ YS5)) P).trans yp,(hf.block bx HR.out.ob.b.lt (by rw[HR.out.ob.l];exact hfi _ YS5)).trans HR.out.ob.b⟩
       unfold opV at HAS
       clear hkk hee hr5 hrv hds hB hG hLb hbr hi hin hbl hfi
       go_upto_region 26 with fail
       refine wp_region_held_drew (S:=(fun W=>Hid (W.cell? ⟨gp,0,none⟩=some (.slice (some ⟨br,0,none⟩) g1.n cr)∧W.cell? ⟨br,P,none⟩=some (.pointer (some ⟨ps P,0,none⟩))∧Blk W bx 26 [.int .i64 o.ed,.int .i64 o.sq,.int .i64 o.lo,.int .i64 o.c.kd,.string ⟨o.c.fam.toArray⟩,.int .i64 o.c.ser,.int .i64 o.c.tok,.string ⟨o.c.cli.toArray⟩,.string ⟨o.c.usr.toArray⟩,.slice ua o.c.sco.length uc,.string ⟨o.c.red.toArray⟩,.string ⟨o.c.cha.toArray⟩,.string ⟨o.c.met.toArray⟩,.string ⟨o.c.ver.toArray⟩,.bool o.c.rf,.int .i64 o.c.edg]))) YS6 ?_ (fun hHeld1=> ?_)
       ·exact HKP.out _ (Fr.of_below (Below.refl _ _).drew)
       refine tkH 0 ?_ (y:=YS2)
       try simp only[ap]
       refine tkH 1 ?_ (y:=YS2)
       try simp only[ap]
       refine tkH 2 ?_ (y:=YS2)
       try simp only[ap]
       refine tkH 3 ?_ (y:=YS10)
       try simp only[ap]
       refine tkH 4 ?_ (y:=YS2)
       try simp only[ap]
       refine tkH 5 ?_ (y:=YS2)
       try simp only[ap]
       refine tkH 6 ?_ (y:=YS10)
       try simp only[ap]
       refine tkH 7 ?_ (y:=by refine Or.inl ⟨by rfl,?_⟩;intro W hSw;(try dsimp only at hSw);(have hb:=hSw.out.2.2;clear hSw;have z0:=hb.cell 0 rfl;have z1:=hb.cell 1 rfl;have z2:=hb.cell 2 rfl;have z3:=hb.cell 3 rfl;have z4:=hb.cell 4 rfl;have z5:=hb.cell 5 rfl;have z6:=hb.cell 6 rfl;have z7:=hb.cell 7 rfl;have z8:=hb.cell 8 rfl;have z9:=hb.cell 9 rfl;have z10:=hb.cell 10 rfl;have z11:=hb.cell 11 rfl;have z12:=hb.cell 12 rfl;have z13:=hb.cell 13 rfl;have z14:=hb.cell 14 rfl;have z15:=hb.cell 15 rfl;clear hb);go_simp;(try with_reducible rfl))
       try simp only[ap]
       refine wpAnyH_ready (rs:= [8]) YS6 (by simp) ?_
       refine AllReadyH.cons (o:= ?oi9) ?hi9 (fun K hK=> ?hs9) AllReadyH.nil
       case hi9=>exact YS11
       go_simp
       refine HAS.out.mono ?_
       rintro e4 w4 ⟨rfl,hm4⟩
       have HM4:=Lib.hid (Mt.undrew hm4)
       clear hm4
       go_wp2_with fail
       refine hK.out _ _ ?_ (fun hHeld2=> ?_)
       ·exact HM4.out.elim fun c4 q=>HKP.out _ q.2.1
       clear hK
       try simp only[ap]
       refine tkH 9 ?_ (y:=YS2)
       try simp only[ap]
       refine tkH 10 ?_ (y:=YS2)
       try simp only[ap]
       refine tkH 11 ?_ (y:=YS2)
       try simp only[ap]
       refine tkH 12 ?_ (y:=YS2)
       try simp only[ap]
       refine tkH 13 ?_ (y:=YS2)
       try simp only[ap]
       refine wpAnyH_done YS6 ?_ _
       obtain⟨c4,hx4,hf4,hr4⟩:=HM4.out
       have HST:=Lib.hid (now_any (g:=g1) wr w4 HR.out.gv.lb HG.out.1 HG.out.2 HR.out.d.n HPN.out HDS.out.pre (by have:=HNB.out;omega) HDS.out.sz ⟨Nat.le_trans (HR.out.d.sv P HPN.out) YS5,Nat.le_trans HR.out.d.wy YS5⟩ hx4 hf4 hr4)
       clear hx4 hf4 hr4 HAS HKP y0 yp
       go_wp2_with fail
       refine HST.out.mono ?_
       rintro e5 w5 ⟨rfl,hm5⟩
       have e2:g1.now P r5=evAsk mayO g1 P o:=by unfold evAsk;rw[HKE.out.2.2]
       rw[e2] at hm5
       have hdi:=HDS.out.di
       rw[e2] at hdi
       obtain⟨c5,hs5⟩:=HR.out.next hm5 hdi
       have HR5:=Lib.hid hs5
       clear hm5 hdi hs5 e2 HST HM4 HG HDS
       have hn2:(evAsk mayO g1 P o).n=g1.n:=rfl
       have hw3: ∀j,j<3→(rounds (j+1) (evAsk mayO g1 P o)).way= []:=HSE.out.w
       have ha3: ∀k,k<g1.n→((rounds 3 (evAsk mayO g1 P o)).r k).st=0∧((rounds 3 (evAsk mayO g1 P o)).r k).vw=V∧((rounds 3 (evAsk mayO g1 P o)).r k).nr=V∧((rounds 3 (evAsk mayO g1 P o)).r k).td=(if askE mayO (g1.r P) o=0 then L+1 else L)∧((rounds 3 (evAsk mayO g1 P o)).r k).ls=(if askE mayO (g1.r P) o=0 then L+1 else L):=HSE.out.a
       have ho3:askE mayO (g1.r P) o=0→(rounds 3 (evAsk mayO g1 P o)).order.length=L+1∧(rounds 3 (evAsk mayO g1 P o)).order[L]?=some o:=HSE.out.o
       have HR5':SnR w1 w5 gp c5 (N+1) (64030000+50) h5 (evAsk mayO g1 P o) bx (.slice ua o.c.sco.length uc) o:=HR5.out
       clear HR5
       generalize evAsk mayO g1 P o=g2 at hn2 hw3 ha3 ho3 HR5'
       have HR5:=Lib.hid HR5'
       have HW3:=Lib.hid hw3
       have HA3:=Lib.hid ha3
       have HO3:=Lib.hid ho3
       have HN2:=Lib.hid hn2
       clear hn2 hw3 ha3 ho3 HR5' t1 t5 t6 tP
       go_wp2_with fail
       go_loopw [14] (fun iv wx=> ∃j:Nat,j≤3∧iv= .int .i64 (j:Int)∧ ∃c h,SnR w1 wx gp c (N+1) (64030050+1600000*j) h (rounds j g2) bx (.slice ua o.c.sco.length uc) o) (fun iv _=>3-(intOf iv).toNat)
       case atStart=>exact⟨0,YS5,rfl,_,_,HR5.out⟩
       case round=>
        obtain⟨j,hj3,rfl,c6,h7,hsr⟩:=hrel
        have HR9:=Lib.hid hsr
        clear hsr HR5
        by_cases hj:j<3
        case pos=>
         have t1:(j:Int)<3:=by omega
         have HRN:=Lib.hid (round_any wr HR9.out.gv HR9.out.d YS5 (by rw[←rounds_succ];exact HW3.out j hj))
         have HI:=Lib.hid hj
         clear hj hj3
         go_wp2_with fail
         refine HRN.out.mono ?_
         rintro e w6 ⟨rfl,hm6,h8,hd7,-⟩
         obtain⟨c7,hs7⟩:=HR9.out.next hm6 hd7
         have HR7:=Lib.hid hs7
         clear HRN hm6 hd7 hs7
         go_wp2_with fail
         exact⟨⟨j+1,HI.out,rfl,c7,h8,by rw[rounds_succ,show 64030050+1600000*(j+1)=64030050+1600000*j+1600000 by omega];exact HR7.out⟩,YS14⟩
        case neg=>as_aux_lemma=>
         have t1: ¬(j:Int)<3:=by omega
         have hj4:j=3:=by omega
         have hn3:(rounds 3 g2).n=g1.n:=(rounds_n 3 g2).trans HN2.out
         have hr3:SnR w1 wr gp c6 (N+1) 68830050 h7 (rounds 3 g2) bx (.slice ua o.c.sco.length uc) o:=by rw[hj4] at HR9;exact HR9.out
         have ha3:=HA3.out
         have ho3:=HO3.out
         clear HR9 hj hj3 hj4 HW3 HA3 HO3 HN2
         generalize rounds 3 g2=g3 at hn3 hr3 ha3 ho3
         rw[←hn3] at ha3
         have HR9:=Lib.hid hr3
         have HA3:=Lib.hid ha3
         have HO3:=Lib.hid ho3
         have HP3:Hid (P<g3.n):=Lib.hid (by rw[hn3];exact HPN.out)
         clear hn3 hr3 ha3 ho3 HPN
         obtain⟨ps,br,cr,bk,ck,bs,cs,wv,bt,ct,ov,ss,hB,hG,hLb,-⟩:=HR9.out.gv.opn HR9.out.d.n.1
         have y0:=hB.cell 0 rfl
         have tP:(P:Int)<(g3.n:Int):=by have:=HP3.out;omega
         have yp:=(hG.cells (i:=P) HP3.out).1
         have HST:=Lib.hid (stand_any (i:=P) (ps P) wr (hG.rp P HP3.out))
         clear hB hG hLb
         go_wp2_with fail
         refine HST.out.mono ?_
         rintro e wa ⟨rfl,hba⟩
         have HBA:=Lib.hid hba
         have HSS:=Lib.hid (st_size (g3.r P))
         have HSO:=Lib.hid (st_one (g3.r P))
         have HZS:Hid (Blk (wa.alloc (.cells zeroS.toArray 39)) wa.heap.size 39 zeroS):=Lib.hid (Blk.new wa 39 _)
         clear y0 yp hba HST t1
         go_wp2_with (refine wpList_storeM rfl 39 (.tmp 15) (.tmp 116) rfl wa.heap.size (stC (g3.r P)) rfl rfl 39 zeroS HZS.out HSS.out rfl HSO.out (fun w7 hB7 hg7=> ?_))
         have hb7:Below wa.heap.size wa w7:=below_app (v:= .slice (some ⟨wa.heap.size,0,none⟩) 0 0) (Below.refl _ _) (Nat.le_refl _) hg7 (fun k e=>by cases e;exact Nat.le_refl _)
         have HR10:Hid (SnR w1 w7 gp c6 (N+1) 68830050 h7 g3 bx (.slice ua o.c.sco.length uc) o∧Blk w7 wa.heap.size 39 (stC (g3.r P))):=Lib.hid ⟨HR9.out.below (HBA.out.trans (hb7.mono HBA.out.size)),hB7⟩
         clear hb7 hB7 hg7 HZS HSS HSO HR9
         go_wp2_with fail
         go_loopw [16,17] (fun iv _ wx=> ∃k:Nat,k≤g3.n∧iv= .int .i64 (k:Int)∧SnR w1 wx gp c6 (N+1) 68830050 h7 g3 bx (.slice ua o.c.sco.length uc) o∧Blk wx wa.heap.size 39 (stC (g3.r P))) (fun iv _ _=>g3.n-(intOf iv).toNat)
         case atStart=>exact⟨0,Nat.zero_le _,rfl,HR10.out⟩
         case round=>
          obtain⟨k,hkn,rfl,hsr,hbs⟩:=hrel
          have HR11:=Lib.hid (And.intro hsr hbs)
          clear hsr hbs HR10
          obtain⟨ps,br,cr,bk,ck,bs,cs,wv,bt,ct,ov,ss,hB,hG,hLb,-⟩:=HR11.out.1.gv.opn HR11.out.1.d.n.1
          have y0:=hB.cell 0 rfl
          have t5:(g3.n:Int)≤5:=by have:=HR11.out.1.d.n.2;omega
          by_cases hk:k<g3.n
          case pos=>
           have t1:(k:Int)<(g3.n:Int):=by omega
           have yp:=(hG.cells (i:=k) hk).1
           have HST:=Lib.hid (stand_any (i:=k) (ps k) wr (hG.rp k hk))
           have HK:=Lib.hid hk
           clear hB hG hLb hk hkn
           go_wp2_with fail
           refine HST.out.mono ?_
           rintro e we ⟨rfl,hbe⟩
           have HBE:=Lib.hid hbe
           have HSS:=Lib.hid (st_size (g3.r k))
           have HSO:=Lib.hid (st_one (g3.r k))
           have HZS:Hid (Blk (we.alloc (.cells zeroS.toArray 39)) we.heap.size 39 zeroS):=Lib.hid (Blk.new we 39 _)
           clear y0 yp hbe HST
           go_upto_region 39 with(refine wpList_storeM rfl 39 (.tmp 17) (.tmp 133) rfl we.heap.size (stC (g3.r k)) rfl rfl 39 zeroS HZS.out HSS.out rfl HSO.out (fun w7b hB7 hg7=> ?_))
           have hb7:Below we.heap.size we w7b:=below_app (v:= .slice (some ⟨we.heap.size,0,none⟩) 0 0) (Below.refl _ _) (Nat.le_refl _) hg7 (fun k e=>by cases e;exact Nat.le_refl _)
           have hb8:=HBE.out.trans (hb7.mono HBE.out.size)
           have HR12:Hid (SnR w1 w7b gp c6 (N+1) 68830050 h7 g3 bx (.slice ua o.c.sco.length uc) o∧Blk w7b wa.heap.size 39 (stC (g3.r P))):=Lib.hid ⟨HR11.out.1.below hb8,HR11.out.2.below hb8 HR11.out.2.lt⟩
           have s2:=hB7.cell 2 rfl
           have s3:=hB7.cell 3 rfl
           have s4:=hB7.cell 4 rfl
           have s6:=hB7.cell 6 rfl
           have s9:=hB7.cell 9 rfl
           have p3:=HR12.out.2.cell 3 rfl
           have p9:=HR12.out.2.cell 9 rfl
           have ak:=HA3.out k HK.out
           have ap:=HA3.out P HP3.out
           have b1:(((g3.r k).st:Int) !=0)=false:=by rw[ak.1];rfl
           have b2:(((g3.r k).vw:Int) !=((g3.r P).vw:Int))=false:=by rw[ak.2.1,ap.2.1];simp
           have b3:(((g3.r k).nr:Int) !=((g3.r P).vw:Int))=false:=by rw[ak.2.2.1,ap.2.1];simp
           have b4:(((g3.r k).td:Int) !=((g3.r P).ls:Int))=false:=by rw[ak.2.2.2.1,ap.2.2.2.2];simp
           have b5:(((g3.r k).ls:Int) !=((g3.r P).ls:Int))=false:=by rw[ak.2.2.2.2,ap.2.2.2.2];simp
           clear ak ap hB7 hg7 hb7 hb8 HZS HSS HSO
           go_wp2_with fail
           exact⟨⟨k+1,HK.out,rfl,HR12.out⟩,by have:=HK.out;simp[intOf];omega⟩
          case neg=>
           have t1: ¬(k:Int)<(g3.n:Int):=by omega
           go_upto_region 41 with fail
           by_cases hc:askE mayO (g1.r P) o=0
           case neg=>as_aux_lemma=>
            have hk0:kk=0:=by rw[HKE.out.1,if_neg hc]
            have he1:ee=1:=by rw[HKE.out.2.1];have:=HSE.out.e;omega
            subst hk0
            subst he1
            clear hB hG hLb hk hkn hc
            go_quiet (fail)
            go_wp2_with fail
            go_ret
            exact⟨rfl,HB0.out.trans ((below_drewN HR11.out.1.b _).mono HB0.out.size)⟩
           case pos=>as_aux_lemma=>
            obtain⟨K,hK⟩: ∃K,K=L+1:=⟨_,rfl⟩
            have hk0:kk=(K:Int):=by rw[HKE.out.1,if_pos hc,HSE.out.l,hK]
            have he1:ee=0:=by rw[HKE.out.2.1,hc];rfl
            have hls:(g3.r P).ls=K:=by rw[(HA3.out P HP3.out).2.2.2.2,if_pos hc,hK]
            obtain⟨hol,hog⟩:=HO3.out hc
            rw[←hK] at hol
            have hmo:mayO o=true:=by
             cases hm:mayO o
             ·have:askE mayO (g1.r P) o=1:=by unfold askE;rw[if_pos hm]
              omega
             ·rfl
            have hlen:=mayO_len hmo
            obtain⟨bo,co,uo,eo,hbo,hco,hin,hcl,-⟩:=Row.at (opE_ok 1) hG.o hog
            rw[hol] at eo
            subst eo
            have hin':TxA 1 c6 wr uo o:=hin
            obtain⟨u6,v6,eu6⟩:=hin'.rd.1.slice
            subst eu6
            subst hk0
            subst he1
            have HBG:=Lib.hid hB
            have HBS:Hid (wr.cell? ⟨wa.heap.size,9,none⟩=some (.int .i64 (K:Int))∧wa.heap.size<wr.heap.size):=Lib.hid ⟨by rw[←hls];exact HR11.out.2.cell 9 rfl,HR11.out.2.lt⟩
            have HZA:Hid (∀W,Below wr.heap.size wr W→ ∀(q:Nat) x,(opC o (.slice u6 o.c.sco.length v6))[q]?=some x→W.cell? ⟨bo,L*16+q,none⟩=some x):=Lib.hid fun W hb q x hx=>(cell_eq (hb.block bo hbo) _).trans (hcl q x hx)
            have HZB:Hid (∀W,Below wr.heap.size wr W→ ∀(q:Nat) x,(opC o (.slice ua o.c.sco.length uc))[q]?=some x→W.cell? ⟨bx,q,none⟩=some x):=Lib.hid fun W hb q x hx=>(cell_eq (hb.block bx HR11.out.1.ob.b.lt) _).trans (HR11.out.1.ob.b.cell q hx)
            have HSP:Hid (∀W,Below wr.heap.size wr W→Calls Tryz.prog 29 #[opV o (.slice u6 o.c.sco.length v6),opV o (.slice ua o.c.sco.length uc)] W fun e w'=>e= .returned (.bool true)∧Below W.heap.size W w'):=Lib.hid fun W hb=>op_same o _ _ W (rdS_low hin'.rd fun h0 g hg hlt=>hb.block g hlt) (rdS_low HR11.out.1.ob.x.rd fun h0 g hg hlt=>hb.block g hlt) YS5
            have tL:(L:Int)<(K:Int):=by omega
            have hK2:K≤2000:=by have h4:=HR11.out.1.d.gi.sgN (HR11.out.1.d.gi.rep HP3.out).sg;have h5:=(HR11.out.1.d.gi.rep HP3.out).ls;have h6:=HNB.out;omega
            have hwr:IntKind.i64.wrap ((K:Int)-1)=(L:Int):=by rw[IntWalk.i64_in _ YS5];omega
            have hwr2:wrap64 ((K:Int)-1)=(L:Int):=by rw[IntWalk.wrap64_in _ YS5];omega
            have HEND:=Lib.hid HR11.out.1.b
            unfold opV at HSP
            clear hB hG hLb hk hkn hc hK hK2 hls hol hog hmo hlen hbo hco hin hcl hin' y0
            refine wp_region_U (S:=(fun W=>Below wr.heap.size wr W)) YS6 ?_ ?_
            ·exact(Below.refl _ _).drew
            refine tkU 0 ?_ (y:=YS1)
            try simp only[ap]
            refine tkU 1 ?_ (y:=YS1)
            try simp only[ap]
            refine tkU 2 ?_ (y:=YS1)
            try simp only[ap]
            refine tkU 3 ?_ (v:=undef) (y:=Or.inr (Or.inl ⟨by rfl,rfl⟩))
            try simp only[ap]
            refine tkU 4 ?_ (v:=undef) (y:=Or.inr (Or.inl ⟨by rfl,rfl⟩))
            try simp only[ap]
            refine tkU 5 ?_ (y:=YS1)
            try simp only[ap]
            refine tkU 6 ?_ (y:=YS1)
            try simp only[ap]
            refine tkU 7 ?_ (y:=YS1)
            try simp only[ap]
            refine tkU 8 ?_ (y:=YS1)
            try simp only[ap]
            refine tkU 9 ?_ (y:=YS1)
            try simp only[ap]
            refine tkU 10 ?_ (y:=YS1)
            try simp only[ap]
            refine tkU 11 ?_ (y:=YS1)
            try simp only[ap]
            refine tkU 12 ?_ (y:=by refine Or.inl ⟨by rfl,?_⟩;intro W hSw;(try dsimp only at hSw);(have q9:=(cell_eq (hSw.block _ HBS.out.2) 9).trans HBS.out.1);(clear hSw);go_simp;(try with_reducible rfl))
            try simp only[ap]
            refine tkU 13 ?_ (y:=YS1)
            try simp only[ap]
            refine tkU 14 ?_ (y:=YS1)
            try simp only[ap]
            refine tkU 15 ?_ (y:=YS1)
            try simp only[ap]
            refine tkU 16 ?_ (y:=YS1)
            try simp only[ap]
            refine tkU 17 ?_ (y:=YS1)
            try simp only[ap]
            refine tkU 18 ?_ (y:=YS1)
            try simp only[ap]
            refine tkU 19 ?_ (y:=YS8)
            try simp only[ap]
            refine tkU 20 ?_ (y:=YS1)
            try simp only[ap]
            refine tkU 21 ?_ (y:=YS1)
            try simp only[ap]
            refine tkU 22 ?_ (y:=YS1)
            try simp only[ap]
            refine tkU 23 ?_ (y:=YS1)
            try simp only[ap]
            refine tkU 24 ?_ (y:=YS1)
            try simp only[ap]
            refine tkU 25 ?_ (y:=YS1)
            try simp only[ap]
            refine tkU 26 ?_ (y:=YS1)
            try simp only[ap]
            refine tkU 27 ?_ (y:=YS1)
            try simp only[ap]
            refine tkU 28 ?_ (y:=YS8)
            try simp only[ap]
            refine tkU 29 ?_ (y:=YS1)
            try simp only[ap]
            refine tkU 30 ?_ (y:=YS1)
            try simp only[ap]
            refine tkU 31 ?_ (y:=YS1)
            try simp only[ap]
            refine tkU 32 ?_ (y:=by refine Or.inl ⟨by rfl,?_⟩;intro W hSw;(try dsimp only at hSw);(have z0:=HZA.out W hSw 0 _ rfl);(have z1:=HZA.out W hSw 1 _ rfl);(have z2:=HZA.out W hSw 2 _ rfl);(have z3:=HZA.out W hSw 3 _ rfl);(have z4:=HZA.out W hSw 4 _ rfl);(have z5:=HZA.out W hSw 5 _ rfl);(have z6:=HZA.out W hSw 6 _ rfl);(have z7:=HZA.out W hSw 7 _ rfl);(have z8:=HZA.out W hSw 8 _ rfl);(have z9:=HZA.out W hSw 9 _ rfl);(have z10:=HZA.out W hSw 10 _ rfl);(have z11:=HZA.out W hSw 11 _ rfl);(have z12:=HZA.out W hSw 12 _ rfl);(have z13:=HZA.out W hSw 13 _ rfl);(have z14:=HZA.out W hSw 14 _ rfl);(have z15:=HZA.out W hSw 15 _ rfl);(try rw[Nat.add_zero] at z0);(clear hSw);go_simp;(try with_reducible rfl))
            try simp only[ap]
            refine tkU 33 ?_ (y:=by refine Or.inl ⟨by rfl,?_⟩;intro W hSw;(try dsimp only at hSw);(have z0:=HZB.out W hSw 0 _ rfl);(have z1:=HZB.out W hSw 1 _ rfl);(have z2:=HZB.out W hSw 2 _ rfl);(have z3:=HZB.out W hSw 3 _ rfl);(have z4:=HZB.out W hSw 4 _ rfl);(have z5:=HZB.out W hSw 5 _ rfl);(have z6:=HZB.out W hSw 6 _ rfl);(have z7:=HZB.out W hSw 7 _ rfl);(have z8:=HZB.out W hSw 8 _ rfl);(have z9:=HZB.out W hSw 9 _ rfl);(have z10:=HZB.out W hSw 10 _ rfl);(have z11:=HZB.out W hSw 11 _ rfl);(have z12:=HZB.out W hSw 12 _ rfl);(have z13:=HZB.out W hSw 13 _ rfl);(have z14:=HZB.out W hSw 14 _ rfl);(have z15:=HZB.out W hSw 15 _ rfl);(try rw[Nat.add_zero] at z0);(clear hSw);go_simp;(try with_reducible rfl))
            try simp only[ap]
            refine wpU_take (i:=34) (oi:= ?oi49) (v:= .bool true) ?hi49 YS6 YS6 YS6 ?hy49 ?rest49
            case hi49=>exact YS11
            case hy49=>
             refine Or.inr (Or.inr (Or.inl ⟨by rfl,29,#[.agg #[.int .i64 o.ed,.int .i64 o.sq,.int .i64 o.lo,.int .i64 o.c.kd,.string ⟨o.c.fam.toArray⟩,.int .i64 o.c.ser,.int .i64 o.c.tok,.string ⟨o.c.cli.toArray⟩,.string ⟨o.c.usr.toArray⟩,.slice u6 o.c.sco.length v6,.string ⟨o.c.red.toArray⟩,.string ⟨o.c.cha.toArray⟩,.string ⟨o.c.met.toArray⟩,.string ⟨o.c.ver.toArray⟩,.bool o.c.rf,.int .i64 o.c.edg],.agg #[.int .i64 o.ed,.int .i64 o.sq,.int .i64 o.lo,.int .i64 o.c.kd,.string ⟨o.c.fam.toArray⟩,.int .i64 o.c.ser,.int .i64 o.c.tok,.string ⟨o.c.cli.toArray⟩,.string ⟨o.c.usr.toArray⟩,.slice ua o.c.sco.length uc,.string ⟨o.c.red.toArray⟩,.string ⟨o.c.cha.toArray⟩,.string ⟨o.c.met.toArray⟩,.string ⟨o.c.ver.toArray⟩,.bool o.c.rf,.int .i64 o.c.edg]],fun W hSw=>(by go_simp),fun W hSw=> ?_⟩))
             exact(HSP.out W hSw).mono fun e w' h=>⟨h.1,hSw.trans (h.2.mono hSw.size)⟩
            try simp only[ap]
            refine tkU 35 ?_ (y:=YS1)
            try simp only[ap]
            refine tkU 36 ?_ (y:=YS1)
            try simp only[ap]
            refine tkU 37 ?_ (y:=YS1)
            try simp only[ap]
            refine wpU_done YS6 ?_ _
            intro w12 hb12
            go_wp2_with fail
            go_ret
            exact⟨rfl,HB0.out.trans ((HEND.out.trans (hb12.mono HEND.out.size)).mono HB0.out.size)⟩
open Go.ChangeShapes Go.WideShapes Go.ChangeAt Go.RowKit Go.ChangeMaps
theorem open_opw {H:Type}{enc:TypeId×Value→H}{W:World}{v:Value}{d:DataW H}{ps:List MemPlace}{r:Reach}{b0:Nat}(hval:Value.okWide Tryz.prog W r b0 26 v)(h:DataW.Trod enc Tryz.prog W 0 (fun _=>true) true 26 v d ps)
 (hw: ∀m∈d.weights Tryz.prog 26,m≤reachBytes): ∃(o:Op) (a:Option Addr) (c:Nat),v= .agg (opC o (.slice a o.c.sco.length c)).toArray∧TxW 300 (fun _=>300) W (.slice a o.c.sco.length c) o∧CmS o.c:=by
 obtain⟨cs,rfl,hsz⟩:=okWide_struct Tryz.underlying26 hval
 obtain⟨fuel,hf⟩:=h
 have hf':DataW.trod enc Tryz.prog W 0 (fun _=>true) true fuel 26 cs.toList=some (d,ps):=hf
 obtain⟨o,u,e,htx,hcs⟩:=op_of hf' hw
 obtain⟨a,c,eu⟩:=htx.rd.1.slice
 subst eu
 refine⟨o,a,c,?_,htx,hcs⟩
 obtain⟨l⟩:=cs
 have e2:l=opC o (.slice a o.c.sco.length c):=e
 rw[e2]
end Go.Proofs.YtdmjegelcdghlaaGreat.Vw
namespace Go.Proofs.YtdmjegelcdghlaaGreat.viewSoon
open Go.ChangeShapes Go.WideShapes Go.ChangeAt Go.RowKit Go.ChangeMaps
theorem contract (H:Type)(enc:TypeId×Value→H)(W:World)(base:Nat)(args:Array Value)(ds gs:List (DataW H))(before:List MemPlace)
 (hval: ∀(j:Nat) t v,Tryz.f5.params[j]?=some t→args[j]?=some v→Value.okWide Tryz.prog W .any base t v)
 (hW:DataW.Whole enc Tryz.prog Tryz.f5.params.toList Rows.viewSoonSpec.vars false W args.toList ds gs before)
 (hz:(DataW.weightsEach Tryz.prog (Tryz.f5.params.toList++Rows.viewSoonSpec.plain.varTypes Tryz.prog) (ds++gs)).all (· ≤reachBytes)=true):
 Calls Tryz.prog 5 args W fun e W'=> ∃v,e= .returned v∧Rows.viewSoonSpec.post enc Tryz.prog Tryz.f5 false true false false W args v W':=by
 have hW':=hW
 obtain⟨p,q,hA0,hV,rfl,hfz,hnd⟩:=hW
 have hA:DataW.TrodAll enc Tryz.prog W 0 (fun _=>true) true Tryz.f5.params.toList args.toList ds p:=hA0
 rw[Tryz.params5] at hA hval
 obtain⟨v0,vs0,d0,ds0,p0,q0,hargs,rfl,rfl,h0,r0⟩:=trodAll_cons hA
 obtain⟨v1,vs1,d1,ds1,p1,q1,rfl,rfl,rfl,h1,r1⟩:=trodAll_cons r0
 obtain⟨v2,vs2,d2,ds2,p2,q2,rfl,rfl,rfl,h2,r2⟩:=trodAll_cons r1
 obtain⟨rfl,rfl,rfl⟩:=trodAll_nil r2
 obtain rfl:args= #[v0,v1,v2]:=by cases args;simp_all
 obtain⟨rfl,rfl⟩:=trodVars_none hV
 obtain⟨a0,rfl,rfl,rfl,w0⟩:=open_int Tryz.underlying3 (hval 0 3 v0 rfl rfl) h0
 obtain⟨l1,n1,z1⟩:=Vw.open_evs (hval 1 56 v1 rfl rfl) h1 (fun m hm=>by have:=List.all_eq_true.1 hz _ (DataW.weights_mem_each (j:=1) rfl rfl m hm);simpa using this)
 obtain⟨o2,a2,c2,rfl,n2,k2⟩:=Vw.open_opw (hval 2 26 v2 rfl rfl) h2 (fun m hm=>by have:=List.all_eq_true.1 hz _ (DataW.weights_mem_each (j:=2) rfl rfl m hm);simpa using this)
 refine(Vw.viewSoon_walk a0 v1 l1 o2 a2 c2 W n1 z1 n2 k2).mono fun e W' ⟨he,hb⟩=> ?_
 subst he
 exact⟨_,rfl,law_post (tb:=4) hW' Tryz.laidOut rfl YS6 YS6 Tryz.underlying4 rfl hb⟩
theorem lifted (os:Os)(started:os.Started)(H:Type)(enc:TypeId×Value→H):
 ReturnsInHanded {} Tryz.checked os 5 .any (Rows.viewSoonSpec.pre6 enc Tryz.prog Tryz.f5 Rows.viewSoonRow.domain false) (Rows.viewSoonSpec.post enc Tryz.prog Tryz.f5 false true false false):=by
 refine returnsInHanded_of_change_sized (C:=Tryz.checked) Tryz.own started YS6 Tryz.func5
  (ChangeSpec.witness6 (enc:=enc) (C:=Tryz.checked) false ⟨#[],#[.int .i64 0,.slice none 0 0,.agg #[.int .i64 0,.int .i64 0,.int .i64 0,.int .i64 0,.string ⟨#[]⟩,.int .i64 0,.int .i64 0,.string ⟨#[]⟩,.string ⟨#[]⟩,.slice none 0 0,.string ⟨#[]⟩,.string ⟨#[]⟩,.string ⟨#[]⟩,.string ⟨#[]⟩,.bool false,.int .i64 0]],[]⟩ 8 YS6 YS6 YS6 YS6) ?_
 intro W base args ds gs before hval hW _ hz _
 exact contract H enc W base args ds gs before hval hW hz
theorem proved:Rows.ViewSoonSaid:=
 OpenClaim.holds_of_wide 5 Tryz.f5 rfl rfl rfl rfl rfl rfl rfl ⟨rfl,rfl,rfl,rfl,rfl⟩ rfl rfl rfl rfl rfl YS6 Tryz.func5 YS6
  (of_decide_eq_true YS6) (by unfold Func.isWrapper;first|(rw[if_pos (by decide+kernel)];kernel_rfl)|(rw[if_neg (by decide+kernel)];exact⟨rfl,rfl⟩))
  (fun os started H enc _=>lifted os started H enc)
end Go.Proofs.YtdmjegelcdghlaaGreat.viewSoon
