/-
  Chapter 22: one of the group is loaded of what lasted.
-/
import Derived.Test.YtdmjegelcdghlaaGreatGGen
import Derived.Test.YtdmjegelcdghlaaGreatGKr
import Derived.Test.YtdmjegelcdghlaaGreatGKj
import Derived.Test.YtdmjegelcdghlaaGreatGIu
import Derived.BigRegion
import Derived.Test.YtdmjegelcdghlaaGreatGDs
set_option maxRecDepth 100000
set_option maxHeartbeats 64000000
set_option linter.unusedVariables false
set_option linter.unusedSimpArgs false
namespace Go.Proofs.YtdmjegelcdghlaaGreat
theorem Z198 {p:Prop}(h:p:=by refine Or.inl ⟨Z31,?_⟩;intro W hSw;(try dsimp only at hSw);(obtain⟨_,q1,q4,q3⟩:=hSw.out;clear hSw);go_simp;(try with_reducible rfl)):p:=h
theorem Z188 {p:Prop}(h:p:=by refine Or.inl ⟨Z31,?_⟩;intro W hSw;(try dsimp only at hSw);(obtain⟨q0,q1,q2,q3,q4,q5,q6,q7,q8⟩:=hSw.out;clear hSw);go_simp;(try with_reducible rfl)):p:=h
end Go.Proofs.YtdmjegelcdghlaaGreat
namespace Go.Proofs.YtdmjegelcdghlaaGreat.Vw
open Go.RowKit Go.Maps
theorem totS_bd (b:Nat): ∀(l:List (Sv Op)),(∀x∈l,x.ops.length≤b)→totS (l.map Sv.z)≤l.length*b
 | [],_=>by simp[totS]
 |x::l,h=>by
  have ih:=totS_bd b l fun y hy=>h y (List.mem_cons_of_mem _ hy)
  have h1:=h x List.mem_cons_self
  have e:totS ((x::l).map Sv.z)=x.ops.length+totS (l.map Sv.z):=by simp[totS,Sv.z]
  rw[e,List.length_cons,Nat.succ_mul]
  omega
theorem gload_any {N:Nat}{h':Gh Op}{c:Lb}{gp i:Nat}{g:Gp Op}{r:Rp Op}(w:World)(hgv:GV c w gp g)(hn:1≤g.n∧g.n≤5)(hi:i<g.n)(hl:Vw.load mayO i g.n (g.kept i) (g.saves i)=some r)(p:Pre mayO N h' {g with r:=upd g.r i r,told:=upd g.told i (g.kept i).cm} i)(hN:N≤1000)(hr:r.saves= []∧r.out= [])
 (S:SvB 1000 400 g) (hw:g.way.length≤100000000):
 Calls Tryz.prog 60 #[.pointer (some ⟨gp,0,none⟩),.int .i64 (i:Int)] w fun e w'=>e= .returned (.bool true)∧Mg c w w' gp (evLoad g i r):=by
 obtain⟨ps,br,cr,bk,ck,bs,cs,wv,bt,ct,ov,ss,hB,hG,hL,lbr,lbk,lbs,lbt⟩:=hgv.opn hn.1
 have hn7:g.n≤7:=by have:=hn.2;omega
 obtain⟨x1,x2,x3,f1,f2,f3⟩:=hG.cells hi
 obtain⟨sa,sn,sq,hsi⟩: ∃a n q,ss i=(⟨a,n,q⟩:Sl3):=⟨(ss i).a,(ss i).n,(ss i).q,rfl⟩
 have hs2:(ss i).v= .slice sa sn sq:=by rw[hsi];rfl
 rw[hs2] at x2
 obtain⟨bk2,ck2,ku,ek,lk2,hck,hkin,hkc,hkf⟩:=Row.at (ktE_ok 1) hG.k (range_at g.kept hi)
 rw[range_len] at ek
 cases ek
 have hkin':SlR (opE 1) c 1 w ku (g.kept i).ops∧(g.kept i).ops.length≤1048576:=hkin
 obtain⟨ka,kc,eku⟩:=hkin'.1.slice
 subst eku
 have k0:w.cell? ⟨bk,i*5,none⟩=some (.int .i64 ((g.kept i).vw:Int)):=hkc 0 _ rfl
 have k1:w.cell? ⟨bk,i*5+1,none⟩=some (.int .i64 ((g.kept i).nr:Int)):=hkc 1 _ rfl
 have k2:w.cell? ⟨bk,i*5+2,none⟩=some (.int .i64 ((g.kept i).bs:Int)):=hkc 2 _ rfl
 have k3:w.cell? ⟨bk,i*5+3,none⟩=some (.int .i64 ((g.kept i).cm:Int)):=hkc 3 _ rfl
 have k4:w.cell? ⟨bk,i*5+4,none⟩=some (.slice ka (g.kept i).ops.length kc):=hkc 4 _ rfl
 have y0:=hB.cell 0 rfl
 have y1:=hB.cell 1 rfl
 have y2:=hB.cell 2 rfl
 have HY:=Lib.hid (And.intro y0 (And.intro y1 (And.intro y2 (And.intro x2 (And.intro k0 (And.intro k1 (And.intro k2 (And.intro k3 k4))))))))
 have HH:=Lib.hid (And.intro hB (And.intro hG (And.intro hL (And.intro (And.intro lbr lbk) (And.intro (And.intro lbs lbt) (And.intro hn7 (And.intro hi (And.intro p (And.intro hN (And.intro hr (And.intro S (And.intro hw hn))))))))))))
 have t1:(i:Int)<(g.n:Int):=by omega
 have HLD:Hid (∀W,W.heap=w.heap→Calls Tryz.prog 35 #[.int .i64 (i:Int),.int .i64 (g.n:Int),.agg #[.int .i64 ((g.kept i).vw:Int),.int .i64 ((g.kept i).nr:Int),.int .i64 ((g.kept i).bs:Int),.int .i64 ((g.kept i).cm:Int),.slice ka (g.kept i).ops.length kc],.slice sa sn sq] W fun e w'=> ∃p,e= .returned (.tuple #[.pointer (some ⟨p,0,none⟩),.int .i64 0])∧Mt (Fi i) i c W w' p r):=Lib.hid fun W hW=>by
  have hsr:SlR (svE 2) c (210+i) w (.slice sa sn sq) (g.saves i):=by have:=(hG.sv i hi).sl;rw[hs2] at this;exact this
  have h1:=(hsr.keep (svE_ok 2) (Lx.refl w c) (W':=W) fun j hj _=>by rw[hW]).sz (fun x hx=>by have:=S.o i hi x hx;omega)
  have h2:=hkin'.1.keep (opE_ok 1) (Lx.refl w c) (W':=W) fun j hj _=>by rw[hW]
  have hFi: ∀l,¬(10+10*i≤l∧l≤15+10*i)→ ¬Fi i l:=fun l hl=>hl
  have hi5:i<5:=by omega
  have h3:=load_any (i:=i) i g.n (g.kept i).z ((g.saves i).map Sv.z) (.slice ka (g.kept i).ops.length kc) (.slice sa sn sq) W ⟨hn.1,hn7,hi⟩ h2 h1 ⟨⟨hFi _ Z11,hFi _ Z11⟩,hFi _ Z11,hFi _ Z11⟩ ⟨by
   have h4:=totS_bd 400 (g.saves i) (S.o i hi)
   have h5:=S.n i hi
   have h6:(g.kept i).z.ops.length≤400:=S.k i hi
   have h7:(g.saves i).length*400≤1000*400:=Nat.mul_le_mul_right _ h5
   omega,by rw[List.length_map];have:=S.n i hi;omega⟩
  rw[loadZ_n,hl] at h3
  refine h3.mono fun e w' hh=> ?_
  obtain⟨p,e1,_,e3⟩:=hh
  exact⟨p,e1,e3⟩
 clear hB hG hL lbr lbk lbs lbt hn7 x1 x2 x3 f1 f2 f3 hs2 hsi lk2 hck hkin hkc hkf hkin' k0 k1 k2 k3 k4 y0 y1 y2 hgv hn hi hl p hN hr S hw
 go_enter Tryz.func60,Tryz.ntmps60
 go_upto_region 1 with fail
 refine wp_region_held_drew (S:=(fun W=>Hid (W.cell? ⟨gp,0,none⟩=some (.slice (some ⟨br,0,none⟩) g.n cr)∧W.cell? ⟨gp,1,none⟩=some (.slice (some ⟨bk,0,none⟩) g.n ck)∧W.cell? ⟨gp,2,none⟩=some (.slice (some ⟨bs,0,none⟩) g.n cs)∧W.cell? ⟨bs,i,none⟩=some (.slice sa sn sq)∧W.cell? ⟨bk,i*5,none⟩=some (.int .i64 ((g.kept i).vw:Int))∧W.cell? ⟨bk,i*5+1,none⟩=some (.int .i64 ((g.kept i).nr:Int))∧W.cell? ⟨bk,i*5+2,none⟩=some (.int .i64 ((g.kept i).bs:Int))∧W.cell? ⟨bk,i*5+3,none⟩=some (.int .i64 ((g.kept i).cm:Int))∧W.cell? ⟨bk,i*5+4,none⟩=some (.slice ka (g.kept i).ops.length kc)))) Z27 ?_ (fun hHeld1=> ?_)
 ·exact Lib.hid HY.out
 refine tkH 0 ?_ (y:=Z7)
 try simp only[ap]
 refine tkH 1 ?_ (y:=Z7)
 try simp only[ap]
 refine tkH 2 ?_ (y:=Z7)
 try simp only[ap]
 refine tkH 3 ?_ (y:=Z7)
 try simp only[ap]
 refine tkH 4 ?_ (y:=Z188)
 try simp only[ap]
 refine tkH 5 ?_ (y:=Z7)
 try simp only[ap]
 refine tkH 6 ?_ (y:=Z7)
 try simp only[ap]
 refine tkH 7 ?_ (y:=Z7)
 try simp only[ap]
 refine tkH 8 ?_ (y:=Z7)
 try simp only[ap]
 refine tkH 9 ?_ (y:=Z188)
 try simp only[ap]
 refine tkH 10 ?_ (y:=Z7)
 try simp only[ap]
 refine tkH 11 ?_ (y:=Z7)
 try simp only[ap]
 refine tkH 12 ?_ (y:=Z188)
 try simp only[ap]
 refine tkH 13 ?_ (y:=Z7)
 try simp only[ap]
 refine tkH 14 ?_ (y:=Z7)
 try simp only[ap]
 refine tkH 15 ?_ (y:=Z7)
 try simp only[ap]
 refine tkH 16 ?_ (y:=Z188)
 try simp only[ap]
 refine tkH 17 ?_ (y:=Z7)
 try simp only[ap]
 refine tkH 18 ?_ (y:=Z7)
 try simp only[ap]
 refine tkH 19 ?_ (y:=Z188)
 try simp only[ap]
 refine wpAnyH_ready (rs:= [20]) Z27 Z93 ?_
 refine AllReadyH.cons (o:= ?oi21) ?hi21 (fun K hK=> ?hs21) AllReadyH.nil
 case hi21=>exact Z20
 go_simp
 refine(HLD.out w.drew rfl).mono ?_
 rintro e w3 ⟨p3,rfl,hm3⟩
 have HM3:=Lib.hid (Mt.undrew hm3)
 clear hm3
 have HE3:Hid (w3.heap[gp]?=w.heap[gp]?∧w3.heap[br]?=w.heap[br]?∧w3.heap[bk]?=w.heap[bk]?∧w3.heap[bs]?=w.heap[bs]?):=Lib.hid (by
  obtain⟨c3,hx3,hf3,hrv3⟩:=HM3.out
  have hi9:i<5:=by have h1:=HH.out.2.2.2.2.2.2.1;have h2:=HH.out.2.2.2.2.2.2.2.2.2.2.2.2;omega
  exact⟨hf3.block gp HH.out.1.lt (by rw[HH.out.2.2.1.1];unfold Fi;omega),hf3.block br HH.out.2.2.2.1.1 (by rw[HH.out.2.2.1.2.1];unfold Fi;omega),hf3.block bk HH.out.2.2.2.1.2 (by rw[HH.out.2.2.1.2.2.1];unfold Fi;omega),hf3.block bs HH.out.2.2.2.2.1.1 (by rw[HH.out.2.2.1.2.2.2.1];unfold Fi;omega)⟩)
 go_wp2_with fail
 refine hK.out _ _ ?_ (fun hHeld2=> ?_)
 ·exact Lib.hid ⟨(cell_eq HE3.out.1 _).trans HY.out.1,(cell_eq HE3.out.1 _).trans HY.out.2.1,(cell_eq HE3.out.1 _).trans HY.out.2.2.1,(cell_eq HE3.out.2.2.2 _).trans HY.out.2.2.2.1,(cell_eq HE3.out.2.2.1 _).trans HY.out.2.2.2.2.1,(cell_eq HE3.out.2.2.1 _).trans HY.out.2.2.2.2.2.1,(cell_eq HE3.out.2.2.1 _).trans HY.out.2.2.2.2.2.2.1,(cell_eq HE3.out.2.2.1 _).trans HY.out.2.2.2.2.2.2.2.1,(cell_eq HE3.out.2.2.1 _).trans HY.out.2.2.2.2.2.2.2.2⟩
 clear hK
 try simp only[ap]
 refine tkH 21 ?_ (y:=Z7)
 try simp only[ap]
 refine tkH 22 ?_ (y:=Z7)
 try simp only[ap]
 refine tkH 23 ?_ (y:=Z7)
 try simp only[ap]
 refine tkH 24 ?_ (y:=Z7)
 try simp only[ap]
 refine tkH 25 ?_ (y:=Z7)
 try simp only[ap]
 refine wpAnyH_done Z27 ?_ _
 clear hHeld1 hHeld2 HLD
 obtain⟨c3,hx3,hf3,hrv3⟩:=HM3.out
 have hi9:i<5:=by have h1:=HH.out.2.2.2.2.2.2.1;have h2:=HH.out.2.2.2.2.2.2.2.2.2.2.2.2;omega
 have hB3:Blk w3 gp 69 _:=(hf3.block gp HH.out.1.lt (by rw[HH.out.2.2.1.1];unfold Fi;omega)).trans HH.out.1
 have hbr3:=hf3.block br HH.out.2.2.2.1.1 (by rw[HH.out.2.2.1.2.1];unfold Fi;omega)
 have hbk3:=hf3.block bk HH.out.2.2.2.1.2 (by rw[HH.out.2.2.1.2.2.1];unfold Fi;omega)
 have HR4:=Lib.hid (GV.r1 ⟨HH.out.2.2.1.1,HH.out.2.2.1.2.1⟩ HH.out.2.2.2.1.1 HH.out.1 HH.out.2.1 HH.out.2.2.2.2.2.2.1 hx3 hf3 HH.out.2.2.2.2.2.1 hrv3)
 obtain⟨x1,_,_,f1,_,_⟩:=GP.cells HH.out.2.1 HH.out.2.2.2.2.2.2.1
 have z1:=(cell_eq hbr3 i).trans x1
 have zf:=(frz_eq hbr3 i).trans f1
 have y0:=hB3.cell 0 rfl
 have HX3:=Lib.hid (And.intro hx3 (And.intro hf3 hbk3))
 clear hx3 hf3 hrv3 hB3 hbr3 hbk3 hi9 x1 f1
 go_upto_region 5 with fail
 generalize w3.setCell ⟨br,i,none⟩ (.pointer (some ⟨p3,0,none⟩))=w4 at*
 clear z1 zf y0
 obtain⟨_,_,x3,_,_,f3⟩:=GP.cells (g:= {g with r:=upd g.r i r}) HR4.out.2.2.2 HH.out.2.2.2.2.2.2.1
 obtain⟨bk2,ck2,ku,ek,-,-,-,hkc,-⟩:=Row.at (ktE_ok 1) HR4.out.2.2.2.k (range_at g.kept HH.out.2.2.2.2.2.2.1)
 rw[range_len] at ek
 cases ek
 have k3:w4.cell? ⟨bk,i*5+3,none⟩=some (.int .i64 ((g.kept i).cm:Int)):=hkc 3 _ rfl
 have y1:=HR4.out.2.2.1.cell 1 rfl
 have y4:=HR4.out.2.2.1.cell 4 rfl
 clear hkc
 have HS5:=Lib.hid (GV.t1 (g:= {g with r:=upd g.r i r}) ⟨HR4.out.1,(HX3.out.1 bt HH.out.2.2.2.2.1.2).trans HH.out.2.2.1.2.2.2.2⟩ HR4.out.2.2.1 HR4.out.2.2.2 HH.out.2.2.2.2.2.2.1 HH.out.2.2.2.2.2.1 (g.kept i).cm)
 refine wp_region_K (fun W=>Hid (W=w4.drew∧W.cell? ⟨gp,1,none⟩=some (.slice (some ⟨bk,0,none⟩) g.n ck)∧W.cell? ⟨gp,4,none⟩=some (.slice (some ⟨bt,0,none⟩) g.n ct)∧W.cell? ⟨bk,i*5+3,none⟩=some (.int .i64 ((g.kept i).cm:Int)))) 14 Z27 ?_ (fun hHeld1=> ?_)
 ·exact Lib.hid ⟨rfl,y1,y4,k3⟩
 refine tkK 0 ?_ (y:=Z7)
 try simp only[ap]
 refine tkK 1 ?_ (y:=Z7)
 try simp only[ap]
 refine tkK 2 ?_ (y:=Z7)
 try simp only[ap]
 refine tkK 3 ?_ (y:=Z198)
 try simp only[ap]
 refine tkK 4 ?_ (y:=Z7)
 try simp only[ap]
 refine tkK 5 ?_ (y:=Z7)
 try simp only[ap]
 refine tkK 6 ?_ (y:=Z7)
 try simp only[ap]
 refine tkK 7 ?_ (y:=Z7)
 try simp only[ap]
 refine tkK 8 ?_ (y:=Z198)
 try simp only[ap]
 refine tkK 9 ?_ (y:=Z7)
 try simp only[ap]
 refine tkK 10 ?_ (y:=Z7)
 try simp only[ap]
 refine tkK 11 ?_ (y:=Z7)
 try simp only[ap]
 refine tkK 12 ?_ (y:=Z198)
 try simp only[ap]
 refine tkK 13 ?_ (y:=Z7)
 try simp only[ap]
 refine wpAnyK_lasts [] Z27 Z31 Z31 ?_
 simp only[List.filterMap_cons,List.filterMap_nil,List.getElem?_toArray,List.getElem?_cons_succ,List.getElem?_cons_zero]
 refine wpList_step fun K hK=> ?_
 rw[if_pos Z31]
 go_simp
 refine hK _ _ ?_
 clear hK
 try simp only[ap]
 have HG6:Hid (∃c6,Lx w c c6∧Fr Fg c w ((w4.setCell ⟨bt,i,none⟩ (.int .i64 ((g.kept i).cm:Int))).drew)∧GV c6 ((w4.setCell ⟨bt,i,none⟩ (.int .i64 ((g.kept i).cm:Int))).drew) gp {g with r:=upd g.r i r,told:=upd g.told i (g.kept i).cm}):=Lib.hid (by
  have h5:=HS5.out
  have hi9:i<5:=by have h1:=HH.out.2.2.2.2.2.2.1;have h2:=HH.out.2.2.2.2.2.2.2.2.2.2.2.2;omega
  have hx:=HX3.out.1
  have hfa:Fr Fg c w w4:=HR4.out.2.1.mono fun l hl=>by
   rcases hl with hl|hl
   ·rw[hl];unfold Fg;omega
   ·exact Fg_Fi Z11 l hl
  have hfb:Fr Fg c w (w4.setCell ⟨bt,i,none⟩ (.int .i64 ((g.kept i).cm:Int))):=hfa.trans hx (h5.1.mono fun l hl=>by rw[hl];unfold Fg;omega)
  have hgv:GV c3 (w4.setCell ⟨bt,i,none⟩ (.int .i64 ((g.kept i).cm:Int))) gp {g with r:=upd g.r i r,told:=upd g.told i (g.kept i).cm}:=⟨HR4.out.1,_,_,_,_,_,_,_,_,h5.2.1,h5.2.2⟩
  exact⟨c3,hx,⟨hfb.os,hfb.tape,hfb.output,hfb.size,hfb.block⟩,hgv.keep HH.out.2.2.2.2.2.1 (Lx.refl _ _) fun _ _ _=>rfl⟩)
 generalize (w4.setCell ⟨bt,i,none⟩ (.int .i64 ((g.kept i).cm:Int))).drew=w6 at*
 have HSE:Hid (Calls Tryz.prog 28 #[.pointer (some ⟨gp,0,none⟩),.int .i64 (i:Int)] w6 fun e w'=>e= .returned (.bool true)∧Mg c w w' gp (evLoad g i r)):=Lib.hid (by
  obtain⟨c6,h1,h2,h3⟩:=HG6.out
  have hh:=HH.out.2.2.2.2.2.2
  have hsb:SB {g with r:=upd g.r i r,told:=upd g.told i (g.kept i).cm} i:=hh.2.1.sb hh.2.2.1 hh.2.2.2.2.2.2 hh.1 (by show(upd g.r i r i).saves.length≤_;rw[upd_same,hh.2.2.2.1.1];exact Nat.zero_le _) (by show(upd g.r i r i).out.length≤_;rw[upd_same,hh.2.2.2.1.2];exact Nat.zero_le _) ⟨by have:=hh.2.2.2.2.1.n i hh.1;show(g.saves i).length≤_;omega,hh.2.2.2.2.2.1⟩
  refine(settle_any w6 h3 hsb).mono fun e w' q=>⟨q.1,Mg.trans h1 h2 q.2⟩)
 clear hHeld1 HS5 HR4 HX3 HM3 HE3 HG6 x3 f3 k3 y1 y4
 go_wp2_with fail
 refine HSE.out.mono ?_
 rintro e w7 ⟨rfl,hm7⟩
 have HM7:=Lib.hid hm7
 clear hm7
 go_wp2_with fail
 go_ret
 exact⟨rfl,HM7.out⟩
end Go.Proofs.YtdmjegelcdghlaaGreat.Vw
namespace Go.Proofs.YtdmjegelcdghlaaGreat
theorem Z155 {p:Prop}(h:p:=by have:=(D.logs hi).1;omega):p:=h
theorem Z133 {p:Prop}(h:p:=by have:=hm.o;rw[ho0] at this;simp at this;omega):p:=h
theorem Z89 {p:Prop}(h:p:=by
 by_cases ek:k=i
 ·rw[ek,upd_same];exact v
 ·rw[upd_ne _ _ ek];exact Nat.le_refl _):p:=h
end Go.Proofs.YtdmjegelcdghlaaGreat
namespace Go.Proofs.YtdmjegelcdghlaaGreat.Vw
open Go.RowKit Go.Maps
variable {N e:Nat} {h:Gh Op} {g:Gp Op}
structure DI (N e:Nat)(h:Gh Op)(g:Gp Op):Prop where
 gi:GI mayO N h g
 ev:EvI e g
 sv:SvB (3*e) 400 g
 n:1≤g.n∧g.n≤5
 N:N≤e
 le:e≤160
 id:Idl e g
theorem DI.way (D:DI N e h g):g.way.length≤30000:=by
 obtain⟨V,h1,h2,h3⟩:=D.ev.tp
 have h4:=wsum_len g.way
 unfold phi at h3
 have:=D.le
 omega
structure DS (N':Nat)(h' h:Gh Op)(g:Gp Op)(i e:Nat)(r':Rp Op):Prop where
 pre:Pre mayO N' h' {g with r:=upd g.r i r'} i
 sz:r'.saves.length≤50000∧r'.out.length≤50000
 di:DI N' (e+1) h' (g.now i r')
 gon:Gon g.n h h' g (g.now i r')
theorem DI.step {N' i:Nat}{r':Rp Op}(D:DI N e h g)(he:e<160)(hi:i<g.n)(s:St g.n mayO N' h g.r g.kept g.saves i r')(ht:r'.td=(g.r i).td)(hN:N'≤e+1)(hs:r'.saves.length≤(g.r i).saves.length+3)(ho:r'.out.length≤50)(hz:Szn 400 (g.r i) r')(hid:r'.idle≤(g.r i).idle+1)
 (hev: ∀h',GI mayO N' h' (g.now i r')→EvI (e+1) (g.now i r')): ∃h',DS N' h' h g i e r':=by
 obtain⟨h',e1,v,p⟩:=D.gi.pre hi s ht
 have G':GI mayO N' h' (g.now i r'):=p.settle hi
 have h0:=(D.gi.em i hi).1
 refine⟨h',p,?_,⟨G',hev h' G',?_,D.n,hN,Z11,D.id.now (d:=1) (by have:=D.id i hi;omega)⟩,rfl,e1,fun k hk=> ?_⟩
 ·rw[h0] at hs
  simp at hs
  omega
 ·have h1:=SvB.now D.sv hi h0 hs hz
  rw[show 3*(e+1)=3*e+3 by omega]
  exact h1
 ·rw[now_vw]
  exact Z89
theorem DI.logs (D:DI N e h g){i:Nat}(hi:i<g.n):(g.r i).log.length≤160∧ ∀k o,(g.r i).offs k=some o→o.ops.length≤160:=by
 have r:=D.gi.rep hi
 have hN:=D.N
 have he:=D.le
 refine⟨by have:=D.gi.sgN r.sg;omega,fun k o ho=> ?_⟩
 obtain⟨_,_,_,f,_⟩:=r.of k o ho
 have:=D.gi.sgN f.sg
 omega
theorem DI.ask (D:DI N e h g)(he:e<160){i:Nat}(hi:i<g.n)(o:Op): ∃h',DS (N+1) h' h g i e (if askE mayO (g.r i) o=0 then Vw.ask (g.r i) o else g.r i):=by
 have hN:=D.N
 have hTM:TM=1099511627776:=rfl
 have r:=D.gi.rep hi
 have hrn:(g.r i).n≤5:=by rw[r.nn];exact D.n.2
 have ho0:=(D.gi.em i hi).2.1
 have hev: ∀h',GI mayO (N+1) h' (g.now i (if askE mayO (g.r i) o=0 then Vw.ask (g.r i) o else g.r i))→EvI (e+1) (g.now i (if askE mayO (g.r i) o=0 then Vw.ask (g.r i) o else g.r i)):=fun h' G'=>D.ev.ask (D.gi.up (Nat.le_succ N)) D.n.2 hi o G'
 by_cases hc:askE mayO (g.r i) o=0
 ·rw[if_pos hc] at hev⊢
  have h1:mayO o=true∧leads (g.r i)=true:=by
   exact Z114
  have hm:=mo_ask (g.r i) o
  exact D.step he hi (D.gi.al.p_ask Z11 hi h1.2 h1.1) (ask_td _ _) Z11 (by have:=hm.s;omega) Z133 ((sz_ask (g.r i) o 200 Z155)) (by rw[ask_idle];exact Nat.le_succ _) hev
 ·rw[if_neg hc] at hev⊢
  exact D.step he hi (St.refl (D.gi.al.up (Nat.le_succ N)) i) rfl Z11 Z11 (by rw[ho0];exact Nat.zero_le _) (Szn.same rfl) (Nat.le_succ _) hev
theorem DI.tick (D:DI N e h g)(he:e<160){i:Nat}(hi:i<g.n): ∃h',DS N h' h g i e (Vw.tick (g.r i)):=by
 have hN:=D.N
 have hTM:TM=1099511627776:=rfl
 have r:=D.gi.rep hi
 have hrn:(g.r i).n≤5:=by rw[r.nn];exact D.n.2
 have ho0:=(D.gi.em i hi).2.1
 have hm:=mo_tick (g.r i)
 exact D.step he hi (D.gi.al.p_tick Z11 hi) (tick_td _) Z11 (by have:=hm.s;omega) Z133 (sz_tick (g.r i) 200 Z155) (tick_idle _) fun h' G'=>D.ev.tick D.gi D.n.2 hi G'
theorem DI.drop (D:DI N e h g)(k:Nat):DI N e h (wayOut g k):=⟨D.gi.drop k,D.ev.out k,⟨D.sv.n,D.sv.o,D.sv.k⟩,D.n,D.N,D.le,D.id⟩
theorem DI.up (D:DI N e h g)(he:e<160):DI N (e+1) h g:=⟨D.gi,D.ev.up,D.sv.up Z11 (Nat.le_refl _),D.n,by have:=D.N;omega,Z11,fun k hk=>Nat.le_succ_of_le (D.id k hk)⟩
theorem DI.take (D:DI N e h g)(he:e<160){k:Nat}{x:Sd Op}(hk:g.way[k]?=some x):x.to<g.n∧TB (g.r x.to) x.m∧ ∃h',DS N h' h (wayOut g k) x.to e (Vw.take (g.r x.to) x.m):=by
 have hN:=D.N
 have hTM:TM=1099511627776:=rfl
 have hx:x∈g.way:=List.mem_of_getElem? hk
 have X:=D.gi.wy x hx
 have hi:=X.to
 have r:=D.gi.rep hi
 have hrn:(g.r x.to).n≤5:=by rw[r.nn];exact D.n.2
 have ho0:=(D.gi.em x.to hi).2.1
 have hm:=mo_take (g.r x.to) x.m
 have he':=D.le
 have htb:=D.gi.tb Z11 (by have:=D.n;omega) hx
 have hops:x.m.ops.length≤160:=by
  rcases X.kd with g1|g1|g1|g1|g1
  ·have:=D.gi.sgN g1.2.2.2.2.2.1;omega
  ·rw[g1.2.2.1];exact Nat.zero_le _
  ·rw[g1.2.2.1];exact Nat.zero_le _
  ·have:=D.gi.sgN g1.2.2.2.2.sg
   have h9:((⟨x.m.nr,x.m.ao,x.m.cm,x.m.ops⟩:Of Op)).ao+x.m.ops.length≤N:=this
   omega
  ·have:=D.gi.sgN g1.2.2.2.2.2.2.1;omega
 refine⟨hi,htb,?_⟩
 exact(D.drop k).step he hi ((D.gi.drop k).al.p_take Z11 hi X rfl) (take_td _ _) Z11 (by have:=hm.s;show(Vw.take (g.r x.to) x.m).saves.length≤_;exact this) Z133 (fun y hy=>by
  rcases sz_take (g.r x.to) x.m 200 Z155 Z11 (fun k o ho=>by have:=(D.logs hi).2 k o ho;omega) y hy with a|a
  ·exact .inl a
  ·exact .inr a) (Nat.le_succ_of_le (take_idle _ _)) fun h' G'=>(D.ev.take D.gi D.n.2 hk G').up
theorem DI.dbl (D:DI N e h g)(he:e<160){k:Nat}{x:Sd Op}(hk:g.way[k]?=some x):DI N (e+1) h (evDbl g x):=⟨D.gi.dbl (List.mem_of_getElem? hk),D.ev.dbl x,⟨fun i hi=>Nat.le_trans (D.sv.n i hi) Z11,D.sv.o,D.sv.k⟩,D.n,by have:=D.N;omega,Z11,fun k hk=>Nat.le_succ_of_le (D.id k hk)⟩
theorem DI.keep (D:DI N e h g){i:Nat}(hi:i<g.n):DI N e h (evKeep g i):=⟨D.gi.keep (by have:=D.N;have:=D.le;have:TM=1099511627776:=rfl;omega) hi,D.ev.keep i,D.sv.keep hi Z155,D.n,D.N,D.le,D.id⟩
theorem DI.load (D:DI N e h g)(he:e<160){i:Nat}(hi:i<g.n): ∃r,Vw.load mayO i g.n (g.kept i) (g.saves i)=some r∧(r.saves= []∧r.out= [])∧ ∃h',Pre mayO N h' {g with r:=upd g.r i r,told:=upd g.told i (g.kept i).cm} i∧DI N (e+1) h' (evLoad g i r)∧Gon g.n h h' g (evLoad g i r):=by
 obtain⟨r,h1,h2,h3,h',e1,v,p⟩:=D.gi.loadsP hi
 have G':GI mayO N h' (evLoad g i r):=p.settle hi
 refine⟨r,h1,⟨h2,h3⟩,h',p,⟨G',D.ev.load D.gi hi h1 G',(D.sv.load hi h2).up Z11 (Nat.le_refl _),D.n,by have:=D.N;omega,Z11,?_⟩,rfl,e1,fun k hk=> ?_⟩
 ·intro k hk
  show(upd (upd g.r i r) i (clr (upd g.r i r i)) k).idle≤_
  rw[upd_same,upd_upd]
  by_cases ek:k=i
  ·rw[ek,upd_same];show r.idle≤_;rw[load_idle h1];exact Nat.zero_le _
  ·rw[upd_ne _ _ ek];exact Nat.le_succ_of_le (D.id k hk)
 show(g.r k).vw≤(upd (upd g.r i r) i (clr (upd g.r i r i)) k).vw
 rw[upd_same,upd_upd]
 exact Z89
theorem now_any {N' i:Nat}{h':Gh Op}{c c4:Lb}{gp:Nat}{ps:Nat→Nat}{rv kv sv wv tv ov:Value}{ss:Nat→Sl3}{r':Rp Op}(w w4:World)(hg:c gp=200)(hB:Blk w gp 69 [rv,kv,sv,wv,tv,ov])(hG:GP c w ps g rv kv sv wv tv ov ss)(hn:1≤g.n∧g.n≤5)(hi:i<g.n)
 (p:Pre mayO N' h' {g with r:=upd g.r i r'} i) (hN:N'≤1000) (hz:r'.saves.length≤50000∧r'.out.length≤50000) (hb:(g.saves i).length≤100000000∧g.way.length≤100000000)
 (hx:Lx w c c4) (hf:Fr (Fi i) c w w4) (hr:RV i c4 w4 (ps i) r'):
 Calls Tryz.prog 28 #[.pointer (some ⟨gp,0,none⟩),.int .i64 (i:Int)] w4 fun e w'=>e= .returned (.bool true)∧Mg c w w' gp (g.now i r'):=by
 have hn7:g.n≤7:=by omega
 obtain⟨h1,h2,h3⟩:=GV.rp hg hB hG hi hn7 hx hf hr
 have hgv:GV c4 w4 gp {g with r:=upd g.r i r'}:=⟨h1,ps,rv,kv,sv,wv,tv,ov,ss,h2,h3⟩
 have hsb:SB {g with r:=upd g.r i r'} i:=p.sb hN hn hi (by show(upd g.r i r' i).saves.length≤_;rw[upd_same];exact hz.1) (by show(upd g.r i r' i).out.length≤_;rw[upd_same];exact hz.2) hb
 exact(settle_any w4 hgv hsb).mono fun e w' q=>⟨q.1,Mg.trans hx (hf.mono (Fg_Fi Z11)) q.2⟩
open Go.RowKit Go.Maps
theorem own_blk {W:World}{b:Nat}{t:TypeId}{cs:List Value}{n sz:Nat}(h:Blk W b t cs)(hl:cs.length=n*sz)(hn:n≤1000):W.ownsRow 0 t sz (.slice (some ⟨b,0,none⟩) n n) n cs:=
 ⟨hl,.inr ⟨b,n,_,rfl,Nat.zero_le _,h,Nat.le_refl _,Z67,by simp[hl],by rw[←hl];simp⟩⟩
theorem row_blk {α:Type}{E:Ek α}{c:Lb}{lo:Nat}{W:World}{b n:Nat}{a:α}{u:Value}(h:Blk W b E.ty (List.replicate n (E.cel a u)).flatten)(hl:(List.replicate n (E.cel a u)).flatten.length=n*E.sz)(hn:n≤1000)(hc:c b=lo)(hin:E.inn c W u a):Row E c lo W (.slice (some ⟨b,0,none⟩) n n) ((List.range n).map fun _=>a):=by
 have e1:(List.range n).map (fun _=>a)=List.replicate n a:=by
  rw[List.map_const',List.length_range]
 rw[e1]
 refine⟨⟨List.replicate n u,⟨Z93,fun i x v hx hv=> ?_⟩,?_⟩,fun g hg=> ?_⟩
 ·rw[List.getElem?_replicate] at hx hv
  split at hx
  ·rename_i hi
   rw[if_pos hi] at hv
   cases hx;cases hv;exact hin
  ·cases hx
 ·have e2:flat E (List.replicate n a) (List.replicate n u)=(List.replicate n (E.cel a u)).flatten:=by
   unfold flat
   rw[List.zipWith_replicate']
  rw[e2,List.length_replicate]
  exact own_blk h hl hn
 ·cases hg;exact hc
theorem made_gv {c:Lb}{W:World}{gp bk bs bt n:Nat}{rv:Value}{ps:Nat→Nat}(hn:n≤5)(hc:c gp=200∧c bk=202∧c bs=203∧c bt=205)(hg:Blk W gp 69 [rv,.slice (some ⟨bk,0,none⟩) n n,.slice (some ⟨bs,0,none⟩) n n,.slice none 0 0,.slice (some ⟨bt,0,none⟩) n n,.slice none 0 0])
 (hk:Blk W bk 47 (List.replicate n [Value.int .i64 0,.int .i64 0,.int .i64 0,.int .i64 0,.slice none 0 0]).flatten) (hs:Blk W bs 42 (List.replicate n (.slice none 0 0))) (ht:Blk W bt 3 (List.replicate n (.int .i64 0)))
 (hr:Row ptE c 201 W rv ((List.range n).map ps)) (hrp: ∀i,i<n→RV i c W (ps i) (newR i n)):GV c W gp (gp0 n):=by
 have hf1: ∀x:Value,(List.replicate n [x]).flatten=List.replicate n x:=fun x=>by
  induction n with
  |zero=>rfl
  |succ n ih=>rw[List.replicate_succ,List.replicate_succ,List.flatten_cons];simp
 refine⟨hc.1,ps,rv,.slice (some ⟨bk,0,none⟩) n n,.slice (some ⟨bs,0,none⟩) n n,.slice none 0 0,.slice (some ⟨bt,0,none⟩) n n,.slice none 0 0,fun _=>⟨none,0,0⟩,hg,hr,?_,?_,Row.nil _ _ _ _,?_,Row.nil _ _ _ _,fun i hi=>Row.nil _ _ _ _,hrp⟩
 ·exact row_blk (E:=ktE 1) (a:=⟨0,0,0,0,[]⟩) (u:= .slice none 0 0) hk (by simp[ktE]) Z11 hc.2.1 ⟨SlR.nil _ _ _ _,Nat.zero_le _⟩
 ·refine row_blk (E:=slE) (a:=(⟨none,0,0⟩:Sl3)) (u:=undef) ?_ (by simp[slE]) Z11 hc.2.2.1 trivial
  have e:=hf1 (Sl3.v ⟨none,0,0⟩)
  show Blk W bs _ (List.replicate n [Sl3.v ⟨none,0,0⟩]).flatten
  rw[e];exact hs
 ·refine row_blk (E:=ntE) (a:=(0:Nat)) (u:=undef) ?_ (by simp[ntE]) Z11 hc.2.2.2 trivial
  have e:=hf1 (.int .i64 ((0:Nat):Int))
  show Blk W bt _ (List.replicate n [Value.int .i64 ((0:Nat):Int)]).flatten
  rw[e];exact ht
open Go.RowKit Go.Maps
theorem alloc4 (W:World)(o1 o2 o3 o4:Obj):((((W.alloc o1).alloc o2).alloc o3).alloc o4).heap[W.heap.size]?=some o1∧((((W.alloc o1).alloc o2).alloc o3).alloc o4).heap[W.heap.size+1]?=some o2∧((((W.alloc o1).alloc o2).alloc o3).alloc o4).heap[W.heap.size+2]?=some o3∧((((W.alloc o1).alloc o2).alloc o3).alloc o4).heap[W.heap.size+3]?=some o4∧Below W.heap.size W ((((W.alloc o1).alloc o2).alloc o3).alloc o4):=by
 have s1:(W.alloc o1).heap.size=W.heap.size+1:=World.size_alloc _ _
 have s2:((W.alloc o1).alloc o2).heap.size=W.heap.size+2:=by rw[World.size_alloc,s1]
 have s3:(((W.alloc o1).alloc o2).alloc o3).heap.size=W.heap.size+3:=by rw[World.size_alloc,s2]
 have b1:Below W.heap.size W (W.alloc o1):=(Below.refl _ _).alloc (Nat.le_refl _) _
 have b2:=b1.alloc b1.size o2
 have b3:=b2.alloc b2.size o3
 refine⟨?_,?_,?_,?_,b3.alloc b3.size o4⟩
 ·rw[Lib.alloc_old _ _ _ Z11,Lib.alloc_old _ _ _ Z11,Lib.alloc_old _ _ _ Z11];exact heap_alloc_new _ _
 ·rw[Lib.alloc_old _ _ _ Z11,Lib.alloc_old _ _ _ Z11,←s1];exact heap_alloc_new _ _
 ·rw[Lib.alloc_old _ _ _ Z11,←s2];exact heap_alloc_new _ _
 ·rw[←s3];exact heap_alloc_new _ _
theorem kt_row:(Tryz.prog.info? 47).map (fun i=>(i.zero,i.size,i.bytes))=some (some (.agg #[.int .i64 0,.int .i64 0,.int .i64 0,.int .i64 0,.slice none 0 0]),5,56):=by kernel_rfl
theorem sl_row:(Tryz.prog.info? 42).map (fun i=>(i.zero,i.size,i.bytes))=some (some (.slice none 0 0),1,24):=by kernel_rfl
theorem made_one (z:Value)(n:Nat):madeCells #[z] n=(List.replicate n z).toArray:=by
 apply Array.ext
 ·simp[size_madeCells]
 ·intro i h1 h2
  simp[madeCells,Nat.mod_one]
theorem made_kept (n:Nat)(hn:n≤5):madeCells #[Value.int .i64 0,.int .i64 0,.int .i64 0,.int .i64 0,.slice none 0 0] (n*5)=((List.replicate n [Value.int .i64 0,.int .i64 0,.int .i64 0,.int .i64 0,.slice none 0 0]).flatten).toArray:=by
 have h:n=0∨n=1∨n=2∨n=3∨n=4∨n=5:=by omega
 apply Array.ext'
 rw[madeCells,Array.toList_map,Array.toList_range]
 rcases h with h|h|h|h|h|h<;>subst h<;>rfl
theorem make_kept (n:Nat)(hn:n≤5)(w:World):(Instr.makeSlice 65 (.int .i64 (n:Int)) (.int .i64 (n:Int))).run Tryz.prog w= .ok (.slice (some ⟨w.heap.size,0,none⟩) n n) (w.alloc (.cells ((List.replicate n [Value.int .i64 0,.int .i64 0,.int .i64 0,.int .i64 0,.slice none 0 0]).flatten).toArray 47)):=by
 obtain⟨i,hi,hz,hs,hb⟩:=info_parts kt_row
 have hr:=run_make (P:=Tryz.prog) w 65 47 i _ Tryz.underlying65 hi hz .i64 .i64 n n Z11 (Int.le_refl _) (by rw[hb];omega) Z11
 simp only[Int.toNat_natCast,hs] at hr
 rw[←made_kept n hn]
 exact hr
theorem make_saves (n:Nat)(hn:n≤5)(w:World):(Instr.makeSlice 66 (.int .i64 (n:Int)) (.int .i64 (n:Int))).run Tryz.prog w= .ok (.slice (some ⟨w.heap.size,0,none⟩) n n) (w.alloc (.cells (List.replicate n (Value.slice none 0 0)).toArray 42)):=by
 have:=run_make_row' (P:=Tryz.prog) 66 42 (.slice none 0 0) 24 Tryz.underlying66 sl_row rfl .i64 .i64 n Z11 Z11 w
 rw[made_one] at this
 exact this
structure MW (n:Nat)(w wx:World)(gp bk bs bt:Nat):Prop where
 g:Blk wx gp 69 [.slice none 0 0,.slice (some ⟨bk,0,none⟩) n n,.slice (some ⟨bs,0,none⟩) n n,.slice none 0 0,.slice (some ⟨bt,0,none⟩) n n,.slice none 0 0]
 k:Blk wx bk 47 (List.replicate n [Value.int .i64 0,.int .i64 0,.int .i64 0,.int .i64 0,.slice none 0 0]).flatten
 s:Blk wx bs 42 (List.replicate n (.slice none 0 0))
 t:Blk wx bt 3 (List.replicate n (.int .i64 0))
 b:Below w.heap.size w wx
 lo:w.heap.size≤gp∧w.heap.size≤bk∧w.heap.size≤bs∧w.heap.size≤bt
 ne:gp≠bk∧gp≠bs∧gp≠bt∧bk≠bs∧bk≠bt∧bs≠bt
def MS (n:Nat)(c:Lb)(w:World)(gp bk bs bt k:Nat)(wr:World)(rv:Value):Prop:= ∃c' ps,Lx w c c'∧Below w.heap.size w wr∧(c' gp=200∧c' bk=202∧c' bs=203∧c' bt=205)∧Blk wr gp 69 [rv,.slice (some ⟨bk,0,none⟩) n n,.slice (some ⟨bs,0,none⟩) n n,.slice none 0 0,.slice (some ⟨bt,0,none⟩) n n,.slice none 0 0]∧
 Blk wr bk 47 (List.replicate n [Value.int .i64 0,.int .i64 0,.int .i64 0,.int .i64 0,.slice none 0 0]).flatten∧Blk wr bs 42 (List.replicate n (.slice none 0 0))∧Blk wr bt 3 (List.replicate n (.int .i64 0))∧Row ptE c' 201 wr rv ((List.range k).map ps)∧(∀i,i<k→RV i c' wr (ps i) (newR i n))∧w.heap.size≤gp
theorem pt_row:(Tryz.prog.info? 27).map (fun i=>(i.zero,i.size,i.bytes))=some (some (.pointer none),1,8):=by kernel_rfl
theorem made_any (n:Nat)(c:Lb)(w:World)(hn:1≤n∧n≤5)(hc0: ∀j,j<w.heap.size→c j≠201):
 Calls Tryz.prog 23 #[.int .i64 (n:Int)] w fun e w'=> ∃gp,e= .returned (.pointer (some ⟨gp,0,none⟩))∧w.heap.size≤gp∧Below w.heap.size w w'∧ ∃c',Lx w c c'∧GV c' w' gp (gp0 n):=by
 have hm1:=make_kept n hn.2
 have hm2:=make_saves n hn.2
 have hm3:=make_ints n Z11
 have HH:=Lib.hid hn
 clear hn
 go_enter Tryz.func23,Tryz.ntmps23
 go_upto_region 1 with fail
 go_cut [3] from 7 (fun v wx=> ∃gp bk bs bt:Nat,v= .pointer (some ⟨gp,0,none⟩)∧MW n w wx gp bk bs bt)
 case first=>
  go_region
  all_goals(go_wp2_with fail)
  all_goals(go_meet)
  ·have h:=alloc4 w (.cells (List.replicate n [Value.int .i64 0,.int .i64 0,.int .i64 0,.int .i64 0,.slice none 0 0]).flatten.toArray 47) (.cells (List.replicate n (Value.slice none 0 0)).toArray 42) (.cells (List.replicate n (Value.int .i64 0)).toArray 3) (.cells #[.slice none 0 0,.slice (some ⟨w.heap.size,0,none⟩) n n,.slice (some ⟨w.heap.size+1,0,none⟩) n n,.slice none 0 0,.slice (some ⟨w.heap.size+1+1,0,none⟩) n n,.slice none 0 0] 69)
   exact⟨w.heap.size+3,w.heap.size+0,w.heap.size+1,w.heap.size+2,rfl,h.2.2.2.1,h.1,h.2.1,h.2.2.1,h.2.2.2.2.drew,⟨Z11,Z11,Z11,Z11⟩,Z11,Z11,Z11,Z11,Z11,Z11⟩
  ·have h:=alloc4 w (.cells (List.replicate n [Value.int .i64 0,.int .i64 0,.int .i64 0,.int .i64 0,.slice none 0 0]).flatten.toArray 47) (.cells (List.replicate n (Value.int .i64 0)).toArray 3) (.cells (List.replicate n (Value.slice none 0 0)).toArray 42) (.cells #[.slice none 0 0,.slice (some ⟨w.heap.size,0,none⟩) n n,.slice (some ⟨w.heap.size+1+1,0,none⟩) n n,.slice none 0 0,.slice (some ⟨w.heap.size+1,0,none⟩) n n,.slice none 0 0] 69)
   exact⟨w.heap.size+3,w.heap.size+0,w.heap.size+2,w.heap.size+1,rfl,h.2.2.2.1,h.1,h.2.2.1,h.2.1,h.2.2.2.2.drew,⟨Z11,Z11,Z11,Z11⟩,Z11,Z11,Z11,Z11,Z11,Z11⟩
  ·have h:=alloc4 w (.cells (List.replicate n (Value.slice none 0 0)).toArray 42) (.cells (List.replicate n [Value.int .i64 0,.int .i64 0,.int .i64 0,.int .i64 0,.slice none 0 0]).flatten.toArray 47) (.cells (List.replicate n (Value.int .i64 0)).toArray 3) (.cells #[.slice none 0 0,.slice (some ⟨w.heap.size+1,0,none⟩) n n,.slice (some ⟨w.heap.size,0,none⟩) n n,.slice none 0 0,.slice (some ⟨w.heap.size+1+1,0,none⟩) n n,.slice none 0 0] 69)
   exact⟨w.heap.size+3,w.heap.size+1,w.heap.size+0,w.heap.size+2,rfl,h.2.2.2.1,h.2.1,h.1,h.2.2.1,h.2.2.2.2.drew,⟨Z11,Z11,Z11,Z11⟩,Z11,Z11,Z11,Z11,Z11,Z11⟩
  ·have h:=alloc4 w (.cells (List.replicate n (Value.slice none 0 0)).toArray 42) (.cells (List.replicate n (Value.int .i64 0)).toArray 3) (.cells (List.replicate n [Value.int .i64 0,.int .i64 0,.int .i64 0,.int .i64 0,.slice none 0 0]).flatten.toArray 47) (.cells #[.slice none 0 0,.slice (some ⟨w.heap.size+1+1,0,none⟩) n n,.slice (some ⟨w.heap.size,0,none⟩) n n,.slice none 0 0,.slice (some ⟨w.heap.size+1,0,none⟩) n n,.slice none 0 0] 69)
   exact⟨w.heap.size+3,w.heap.size+2,w.heap.size+0,w.heap.size+1,rfl,h.2.2.2.1,h.2.2.1,h.1,h.2.1,h.2.2.2.2.drew,⟨Z11,Z11,Z11,Z11⟩,Z11,Z11,Z11,Z11,Z11,Z11⟩
  ·have h:=alloc4 w (.cells (List.replicate n (Value.int .i64 0)).toArray 3) (.cells (List.replicate n [Value.int .i64 0,.int .i64 0,.int .i64 0,.int .i64 0,.slice none 0 0]).flatten.toArray 47) (.cells (List.replicate n (Value.slice none 0 0)).toArray 42) (.cells #[.slice none 0 0,.slice (some ⟨w.heap.size+1,0,none⟩) n n,.slice (some ⟨w.heap.size+1+1,0,none⟩) n n,.slice none 0 0,.slice (some ⟨w.heap.size,0,none⟩) n n,.slice none 0 0] 69)
   exact⟨w.heap.size+3,w.heap.size+1,w.heap.size+2,w.heap.size+0,rfl,h.2.2.2.1,h.2.1,h.2.2.1,h.1,h.2.2.2.2.drew,⟨Z11,Z11,Z11,Z11⟩,Z11,Z11,Z11,Z11,Z11,Z11⟩
  ·have h:=alloc4 w (.cells (List.replicate n (Value.int .i64 0)).toArray 3) (.cells (List.replicate n (Value.slice none 0 0)).toArray 42) (.cells (List.replicate n [Value.int .i64 0,.int .i64 0,.int .i64 0,.int .i64 0,.slice none 0 0]).flatten.toArray 47) (.cells #[.slice none 0 0,.slice (some ⟨w.heap.size+1+1,0,none⟩) n n,.slice (some ⟨w.heap.size+1,0,none⟩) n n,.slice none 0 0,.slice (some ⟨w.heap.size,0,none⟩) n n,.slice none 0 0] 69)
   exact⟨w.heap.size+3,w.heap.size+2,w.heap.size+1,w.heap.size+0,rfl,h.2.2.2.1,h.2.2.1,h.2.1,h.1,h.2.2.2.2.drew,⟨Z11,Z11,Z11,Z11⟩,Z11,Z11,Z11,Z11,Z11,Z11⟩
 case rest=>
  obtain⟨gp,bk,bs,bt,rfl,hmw⟩:=hcut
  have HW:=Lib.hid hmw
  clear hmw
  have HMS:Hid (MS n c w gp bk bs bt 0 wc (.slice none 0 0)):=Lib.hid (by
   have h:=HW.out
   have hlo:=h.lo
   have hne:=h.ne
   refine⟨fun j=>if j<w.heap.size then c j else if j=gp then 200 else if j=bk then 202 else if j=bs then 203 else if j=bt then 205 else 0,fun _=>0,fun j hj=>if_pos hj,h.b,⟨?_,?_,?_,?_⟩,h.g,h.k,h.s,h.t,Row.nil _ _ _ _,fun i hi=>absurd hi (Nat.not_lt_zero _),hlo.1⟩
   ·dsimp only;rw[if_neg Z11,if_pos rfl]
   ·dsimp only;rw[if_neg Z11,if_neg Z11,if_pos rfl]
   ·dsimp only;rw[if_neg Z11,if_neg Z11,if_neg Z11,if_pos rfl]
   ·dsimp only;rw[if_neg Z11,if_neg Z11,if_neg Z11,if_neg Z11,if_pos rfl])
  go_wp2_with fail
  go_loopw [4,5,6] (fun iv _ _ wr=> ∃k:Nat,k≤n∧iv= .int .i64 (k:Int)∧ ∃rv,MS n c w gp bk bs bt k wr rv) (fun iv _ _ _=>n-(intOf iv).toNat)
  case atStart=>exact⟨0,Nat.zero_le _,rfl,_,HMS.out⟩
  case round=>
   obtain⟨k,hk,rfl,rv,hms⟩:=hrel
   have HS:=Lib.hid hms
   clear hms HMS hm1 hm2 hm3
   by_cases hkn:k<n
   case neg=>
    have hke:n=k:=by omega
    have t1: ¬(k:Int)<(n:Int):=by omega
    have HK:=Lib.hid hke
    clear hke hk hkn
    go_wp2_with fail
    go_ret
    obtain⟨c',ps,h1,h2,h3,h4,h5,h6,h7,h8,h9,h10⟩:=HS.out
    rw[←HK.out] at h8 h9
    exact⟨gp,rfl,h10,h2,c',h1,made_gv HH.out.2 h3 h4 h5 h6 h7 h8 h9⟩
   case pos=>
    have t1:(k:Int)<(n:Int):=by omega
    obtain⟨c',ps,h1,h2,h3,h4,h5,h6,h7,h8,h9,h10⟩:=HS.out
    obtain⟨ra,rc,er⟩:=h8.slice
    rw[range_len] at er
    subst er
    have HB:=Lib.hid (And.intro h1 (And.intro h2 (And.intro h3 (And.intro h4 (And.intro h5 (And.intro h6 (And.intro h7 (And.intro h8 (And.intro h9 h10)))))))))
    have HNW:=Lib.hid (new_any k c' k n wr ⟨HH.out.1,by have:=HH.out;omega,hkn⟩)
    clear h1 h2 h3 h4 h5 h6 h7 h8 h9 h10 HS
    go_wp2_with fail
    refine HNW.out.mono ?_
    rintro e4 w4 ⟨p4,rfl,hp4,hb4,c4,hx4,hr4⟩
    have HM4:=Lib.hid (And.intro hb4 (And.intro hx4 hr4))
    have y0:=(HB.out.2.2.2.1.below hb4 HB.out.2.2.2.1.lt).cell 0 rfl
    clear hp4 hb4 hx4 hr4 HNW
    go_upto_region 8 with fail
    have hk5:k≤5:=by have:=HH.out;omega
    obtain⟨w5,hw5⟩: ∃w5,w5=w4.alloc (.cells #[.pointer (some ⟨p4,0,none⟩)] 27):=⟨_,rfl⟩
    have hb5:Below w4.heap.size w4 w5:=by rw[hw5];exact(Below.refl _ _).alloc (Nat.le_refl _) _
    have hb45:Below wr.heap.size wr w5:=HM4.out.1.trans (hb5.mono HM4.out.1.size)
    have hA:=HB.out.2.2.2.2.2.2.2.1.keep ptE_ok HM4.out.2.1 fun j hj _=>hb45.block j hj
    obtain⟨v7,w7,hrun,hx7,hr7,hf7,-⟩:=hA.app (t:=64) (ty:=64) (by_:=8) (xv:= .slice (some ⟨w4.heap.size,0,none⟩) 1 1) (m:= [p4]) ptE_ok Tryz.underlying64 pt_row rfl ⟨[undef],⟨rfl,fun _ _ _ _ _=>trivial⟩,by rw[flat_single,hw5];exact rd_new w4 1 1 _ 27 rfl⟩ (fun h=>h) (by rw[range_len,List.length_singleton];omega) (by rw[range_len,List.length_singleton];unfold maxLen;omega)
    obtain⟨a7,c7,e7⟩:=hr7.slice
    have e8:((List.range k).map ps++ [p4]).length=k+1:=by rw[List.length_append,range_len];rfl
    rw[e8] at e7
    subst e7
    have hgp5:Blk w5 gp _ _:=HB.out.2.2.2.1.below hb45 HB.out.2.2.2.1.lt
    have hcg: ∀b l,b<wr.heap.size→c' b=l→c4 b=l:=fun b l hb h=>(HM4.out.2.1 b hb).trans h
    have hbl: ∀b l,b<wr.heap.size→c' b=l→l≠201→w7.heap[b]?=wr.heap[b]?:=fun b l hb h hne=>(hf7.block b (Nat.lt_of_lt_of_le hb hb45.size) (by rw[hcg b l hb h];exact hne)).trans (hb45.block b hb)
    have z0:w7.cell? ⟨gp,0,none⟩=_:=(cell_eq (hbl gp 200 HB.out.2.2.2.1.lt HB.out.2.2.1.1 Z37) 0).trans (HB.out.2.2.2.1.cell 0 rfl)
    have zf:w7.frozen? ⟨gp,0,none⟩=false:=(frz_eq (hbl gp 200 HB.out.2.2.2.1.lt HB.out.2.2.1.1 Z37) 0).trans (HB.out.2.2.2.1.frozen 0)
    rw[hw5] at hrun
    have HRUN:=Lib.hid hrun
    have HN:Hid (MS n c w gp bk bs bt (k+1) (w7.setCell ⟨gp,0,none⟩ (.slice a7 (k+1) c7)) (.slice a7 (k+1) c7)):=Lib.hid (by
     have hb:=HB.out
     have hlx:Lx wr c' _:=HM4.out.2.1.trans (fun j hj=>hx7 j (Nat.lt_of_lt_of_le hj hb5.size)) HM4.out.1.size
     have hB7: ∀b l cs t,Blk wr b t cs→c' b=l→l≠201→b≠gp→Blk (w7.setCell ⟨gp,0,none⟩ (.slice a7 (k+1) c7)) b t cs:=fun b l cs t hB hl hne hg=>Blk.setOther ((hbl b l hB.lt hl hne).trans hB) _ _ hg
     have hgl:=hb.2.2.1
     have hg7:Blk w7 gp _ _:=(hbl gp 200 hb.2.2.2.1.lt hgl.1 Z37).trans hb.2.2.2.1
     have hcgp:(c4.row (.slice a7 (k+1) c7) 201) gp=200:=(hlx gp hb.2.2.2.1.lt).trans hgl.1
     refine⟨_,upd ps k p4,hb.1.trans hlx hb.2.1.size,?_,⟨hcgp,(hlx bk hb.2.2.2.2.1.lt).trans hgl.2.1,(hlx bs hb.2.2.2.2.2.1.lt).trans hgl.2.2.1,(hlx bt hb.2.2.2.2.2.2.1.lt).trans hgl.2.2.2⟩,hg7.set 0 _,hB7 bk 202 _ _ hb.2.2.2.2.1 hgl.2.1 Z37 (fun e=>by rw[e,hgl.1] at hgl;omega),hB7 bs 203 _ _ hb.2.2.2.2.2.1 hgl.2.2.1 Z37 (fun e=>by rw[e,hgl.1] at hgl;omega),hB7 bt 205 _ _ hb.2.2.2.2.2.2.1 hgl.2.2.2 Z37 (fun e=>by rw[e,hgl.1] at hgl;omega),?_,?_,hb.2.2.2.2.2.2.2.2.2⟩
     ·exact((hb.2.1.trans (hb45.mono hb.2.1.size)).trans (hf7.below (Nat.le_trans hb.2.1.size hb45.size) (fun j hj e=>hc0 j hj (((HM4.out.2.1 j (Nat.lt_of_lt_of_le hj hb.2.1.size)).trans (hb.1 j hj)).symm.trans e)))).setCell hb.2.2.2.2.2.2.2.2.2 _
     ·have el:(List.range (k+1)).map (upd ps k p4)=(List.range k).map ps++ [p4]:=by
       rw[List.range_succ,List.map_append]
       congr 1
       ·exact List.map_congr_left fun j hj=>by
         have:=List.mem_range.1 hj
         unfold upd
         exact if_neg Z11
       ·simp[upd]
      rw[el]
      exact hr7.keep ptE_ok (Lx.refl _ _) fun j hj hl=>set_heap_ne _ _ _ _ _ fun e=>by
       rcases hl with hl|hl
       ·exact hl
       ·rw[e] at hl;rw[hcgp] at hl;omega
     ·intro i hi
      by_cases e:i=k
      ·subst e
       have e1:upd ps i p4 i=p4:=by simp[upd]
       rw[e1]
       exact HM4.out.2.2.keep (fun j hj=>hx7 j (Nat.lt_of_lt_of_le hj hb5.size)) fun j hj hl=>((set_heap_ne _ _ _ _ _ fun e=>by
        rw[e,hcg gp 200 hb.2.2.2.1.lt hgl.1] at hl;omega).trans (hf7.block j (Nat.lt_of_lt_of_le hj hb5.size) Z11)).trans (hb5.block j hj)
      ·have e1:upd ps k p4 i=ps i:=by simp[upd,e]
       rw[e1]
       exact(hb.2.2.2.2.2.2.2.2.1 i Z11).keep hlx fun j hj hl=>(set_heap_ne _ _ _ _ _ fun e=>by
        rw[e,hgl.1] at hl;omega).trans (hbl j _ hj rfl Z11))
    clear hb5 hb45 hA hrun hx7 hr7 hf7 hgp5 hcg hbl hw5 hk5
    go_wp2_with (refine wpList_execA rfl (execA (.tmp 36) (.tmp 38) 64 rfl rfl rfl HRUN.out) ?_)
    go_wp2_with fail
    case roundEnd=>
     have hk5:k≤5:=by have:=HH.out;omega
     have ek:wrap64 ((k:Int)+1)=((k+1:Nat):Int):=by rw[IntWalk.wrap64_in _ Z11];omega
     rw[ek]
     exact⟨⟨k+1,Z11,rfl,_,HN.out⟩,by simp[intOf];omega⟩
end Go.Proofs.YtdmjegelcdghlaaGreat.Vw
