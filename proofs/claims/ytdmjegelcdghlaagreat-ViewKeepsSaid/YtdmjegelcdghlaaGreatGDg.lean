/-
  Chapter 22: primary, all, send.
-/
import Derived.Deep.QuietTactic
import Derived.BigQuiet
import Derived.Test.YtdmjegelcdghlaaGreatGDd
import Derived.Test.YtdmjegelcdghlaaGreatGQs
import Derived.Test.YtdmjegelcdghlaaGreatGGen
import Derived.Deep.AppendLies
import Derived.Deep.RegionLaw
import Derived.Test.YtdmjegelcdghlaaGreatGDc
set_option maxRecDepth 100000
set_option maxHeartbeats 64000000
set_option linter.unusedVariables false
set_option linter.unusedSimpArgs false
namespace Go.Proofs.YtdmjegelcdghlaaGreat.Vw
open Go.RowKit Go.Maps
theorem prim_nat (v n:Nat)(h:1≤n∧n≤7):Qs.prim (v:Int) (n:Int)=((v % n:Nat):Int):=by
 unfold Qs.prim
 rw[if_neg Z11]
 omega
theorem primary_any {r:Rp Op}{lv hv ov sv uv:Value}(p:Nat)(w:World)(h:Blk w p 94 (rpC r lv hv ov sv uv))(hn:1≤r.n∧r.n≤7):
 Calls Tryz.prog 58 #[.pointer (some ⟨p,0,none⟩)] w fun e w'=>e= .returned (.int .i64 (prm r:Int))∧ ∃k,w'=w.drewN k:=by
 have y1:=h.cell 1 rfl
 have y3:=h.cell 3 rfl
 have HP:=Lib.hid (fun W=>prim_any (r.vw:Int) (r.n:Int) W)
 rw[prim_nat r.vw r.n hn] at HP
 clear h hn
 go_enter Tryz.func58,Tryz.ntmps58
 go_wp2_with fail
 go_quiet ((go_at_call 87;exact Calls.quiet_of_same ((HP.out _).mono fun e w' ⟨h1,h2⟩=>⟨h1,h2.symm⟩)))
 go_wp2_with fail
 go_ret
 exact⟨rfl,_,rfl⟩
def natV (k:Nat):Value:= .int .i64 (k:Int)
theorem rd_new (w:World)(sz n:Nat)(vs:List Value)(e:TypeId)(h:vs.length=n*sz):Rd (w.alloc (.cells vs.toArray e)) sz (.slice (some ⟨w.heap.size,0,none⟩) n n) n vs:=by
 refine⟨h,.inr ⟨w.heap.size,0,n,rfl,Nat.le_refl _,fun j u hj=> ?_⟩⟩
 have:=cells_new w vs e j u hj
 exact Z127
theorem all_any {r:Rp Op}{lv hv ov sv uv:Value}(p:Nat)(w:World)(h:Blk w p 94 (rpC r lv hv ov sv uv))(hn:r.n≤1000):
 Calls Tryz.prog 45 #[.pointer (some ⟨p,0,none⟩)] w fun e w'=> ∃v,e= .returned v∧w'.ownsRow w.heap.size 3 1 v r.n ((List.range r.n).map natV)∧Below w.heap.size w w':=by
 have y1:=h.cell 1 rfl
 obtain⟨i0,hi,hz0,hz1,hz2⟩:=info_parts int_row
 have HI:=Lib.hid (And.intro hi (And.intro hz0 (And.intro hz1 hz2)))
 have HN:=Lib.hid hn
 clear h hi hz0 hz1 hz2 hn
 go_enter Tryz.func45,Tryz.ntmps45
 go_wp2_with fail
 go_loopw [3,10] (fun v k wr=> ∃j:Nat,k= .int .i64 (j:Int)∧j≤r.n∧wr.ownsRow w.heap.size 3 1 v j ((List.range j).map natV)∧Below w.heap.size w wr) (fun _ k _=>r.n-(intOf k).toNat)
 case atStart=>exact⟨0,rfl,Nat.zero_le _,World.ownsRow_nil _ _ _ _,Below.refl _ _⟩
 case round=>
  obtain⟨j,rfl,hj,ho,hb⟩:=hrel
  by_cases hjn:j<r.n
  case neg=>
   have t1: ¬(j:Int)<(r.n:Int):=by omega
   have e:j=r.n:=by omega
   have HO:Hid (wr.ownsRow w.heap.size 3 1 u3 r.n ((List.range r.n).map natV)∧Below w.heap.size w wr):=Lib.hid (by rw[←e];exact⟨ho,hb⟩)
   clear ho hb e
   go_wp2_with fail
   go_ret
   exact⟨_,rfl,HO.out⟩
  case pos=>
  have t1:(j:Int)<(r.n:Int):=by omega
  obtain⟨v',w3,hrun,ho3,hg3,hbk3⟩:=app_run (P:=Tryz.prog) (wr.alloc (.cells #[natV j] 3)) 67 67 3 w.heap.size i0 (.int .i64 0) 1 8 Tryz.underlying67 HI.out.1 HI.out.2.1 HI.out.2.2.1 HI.out.2.2.2 rfl Z37 u3 j ((List.range j).map natV) (ho.alloc _) (.slice (some ⟨wr.heap.size,0,none⟩) 1 1) 1 [natV j] (rd_new wr 1 1 [natV j] 3 rfl) (by intro u hu;simp at hu;subst hu;rfl) (by have:=HN.out;unfold maxLen;omega) (by have:=HN.out;omega) (by rw[World.size_alloc];have:=hb.size;omega)
  have HRUN:=Lib.hid hrun
  have HS:Hid (w3.ownsRow w.heap.size 3 1 v' (j+1) ((List.range (j+1)).map natV)∧Below w.heap.size w w3):=Lib.hid ⟨by rw[List.range_succ,List.map_append];exact ho3,below_app hb hb.size hg3 fun k hk=>(ho.lt k hk).1⟩
  obtain⟨xa,xc,ex⟩:=(Rd.of_own ho).slice
  subst ex
  obtain⟨xa',xc',ex⟩:=(Rd.of_own ho3).slice
  subst ex
  have hn9:=HN.out
  unfold natV at HRUN
  clear hrun ho3 hg3 hbk3 ho hb
  go_wp2_with (at_builtin;go_loud (refine wpList_execA rfl (execA (.tmp 13) (.tmp 15) 67 rfl rfl rfl HRUN.out) ?_))
  go_wp2_with fail
  go_roundw
  case rel=>exact⟨j+1,Z81,Z11,HS.out⟩
  case measure=>simp[intOf];omega
end Go.Proofs.YtdmjegelcdghlaaGreat.Vw
namespace Go.Proofs.YtdmjegelcdghlaaGreat
theorem Z148 {p:Prop}(h:p:=by have:=HH.out.2.2.2.1;omega):p:=h
end Go.Proofs.YtdmjegelcdghlaaGreat
namespace Go.Proofs.YtdmjegelcdghlaaGreat.Vw
open Go.RowKit Go.Maps
theorem OfR.keep {i:Nat}{c c':Lb}{W W':World}{ov:Value}{r:Rp Op}(h:OfR i c W ov r)(hc:Lx W c c')(hb: ∀k,k<W.heap.size→c k=1∨c k=13+10*i→W'.heap[k]?=W.heap[k]?):OfR i c' W' ov r:=by
 rcases h with h1|⟨m,h1,h2,h3⟩
 ·exact .inl h1
 ·refine .inr ⟨m,h1,?_,h3.keep hc (hb m h3.lt (.inr h2)) fun k hk hl=>hb k hk (.inl hl)⟩
  rw[hc m h3.lt];exact h2
theorem RP.lgK {i:Nat}{c c':Lb}{W W':World}{r:Rp Op}{lv hv ov sv uv:Value}(h:RP i c W r lv hv ov sv uv)(hc:Lx W c c')(hb: ∀k,k<W.heap.size→c k=1∨c k=11+10*i→W'.heap[k]?=W.heap[k]?):Row (opE 1) c' (11+10*i) W' lv r.log:=h.lg.keep (opE_ok 1) hc hb
theorem RP.hvK {i:Nat}{c c':Lb}{W W':World}{r:Rp Op}{lv hv ov sv uv:Value}(h:RP i c W r lv hv ov sv uv)(hc:Lx W c c')(hb: ∀k,k<W.heap.size→c k=12+10*i→W'.heap[k]?=W.heap[k]?):Row ntE c' (12+10*i) W' hv r.hv:=h.hv.keep ntE_ok hc fun k hk hl=>by
 rcases hl with hl|hl
 ·exact absurd hl fun h=>h
 ·exact hb k hk hl
theorem RP.svK {i:Nat}{c c':Lb}{W W':World}{r:Rp Op}{lv hv ov sv uv:Value}(h:RP i c W r lv hv ov sv uv)(hc:Lx W c c')(hb: ∀k,k<W.heap.size→c k=2∨c k=14+10*i→W'.heap[k]?=W.heap[k]?):Row (svE 2) c' (14+10*i) W' sv r.saves:=h.sv.keep (svE_ok 2) hc hb
theorem RP.ouK {i:Nat}{c c':Lb}{W W':World}{r:Rp Op}{lv hv ov sv uv:Value}(h:RP i c W r lv hv ov sv uv)(hc:Lx W c c')(hb: ∀k,k<W.heap.size→c k=3∨c k=15+10*i→W'.heap[k]?=W.heap[k]?):Row (sdE 3) c' (15+10*i) W' uv r.out:=h.ou.keep (sdE_ok 3) hc hb
def Gi (i:Nat):Nat→Prop:=fun k=>k=10+10*i∨k=15+10*i
def msV (kd fr vw nr ao:Int)(ov:Value)(cm sb ls:Int):Value:= .agg #[.int .i64 kd,.int .i64 fr,.int .i64 vw,.int .i64 nr,.int .i64 ao,ov,.int .i64 cm,.int .i64 sb,.int .i64 ls]
structure SN (i:Nat)(c:Lb)(w:World)(p b:Nat)(r q:Rp Op)(m:Ms Op)(ov:Value)(wr:World):Prop where
 ex: ∃c',Lx w c c'∧Fr (Gi i) c w wr∧RV i c' wr p q∧c' b=1
 bk:Blk wr b 37 (msC {m with fr:=r.id,vw:=r.vw} ov)
 hb:w.heap.size≤b
 id:q.id=r.id∧q.vw=r.vw
theorem upd_ne' {α:Type}(f:Nat→α){i j:Nat}(a:α)(h:j≠i):upd f i a j=f j:=by unfold upd;rw[if_neg h]
theorem set_heap_ne (W:World)(b j k:Nat)(v:Value)(h:k≠b):(W.setCell ⟨b,j,none⟩ v).heap[k]?=W.heap[k]?:=Below.heap_setCell _ _ _ _ h
theorem set_size (W:World)(p:Addr)(v:Value):(W.setCell p v).heap.size=W.heap.size:=by show(W.heap.modify _ _).size=_;rw[Array.size_modify]
theorem SN.step {i:Nat}{c:Lb}{w:World}{p b:Nat}{r q:Rp Op}{m:Ms Op}{ov:Value}{wr:World}(h:SN i c w p b r q m ov wr){lo:Nat}(hm:SlR (opE 1) c lo w ov m.ops)(hlo: ¬Gi i lo)(hml:m.ops.length≤1048576)(k:Nat){w2:World}{v2:Value}
 (hnew:NewO (wr.heap.size+1) w2 v2 m.ops) (hb2:Below (wr.heap.size+1) (wr.alloc (.cells (msC {m with fr:=r.id,vw:=r.vw} ov).toArray 37)) w2) (hq:q.out.length≤1000000):
 ∃(lv hv xv sv uv v':Value) (w5:World),Blk (w2.setCell ⟨wr.heap.size,5,none⟩ v2) p 94 (rpC q lv hv xv sv uv)∧Blk (w2.setCell ⟨wr.heap.size,5,none⟩ v2) wr.heap.size 37 (msC {m with fr:=r.id,vw:=r.vw} v2)∧
  (Builtin.append_ #[44,44] 44 #[uv,.slice (some ⟨(w2.setCell ⟨wr.heap.size,5,none⟩ v2).heap.size,0,none⟩) 1 1]).run Tryz.prog ((w2.setCell ⟨wr.heap.size,5,none⟩ v2).alloc (.cells (sdC ⟨k,{m with fr:=r.id,vw:=r.vw}⟩ v2).toArray 53)).drew= .ok v' w5∧
  (∃a cp,v'= .slice a (q.out.length+1) cp)∧w5.cell? ⟨p,15,none⟩=some uv∧w5.frozen? ⟨p,15,none⟩=false∧
  SN i c w p b r {q with out:=q.out++ [⟨k,{m with fr:=r.id,vw:=r.vw}⟩] } m ov (w5.setCell ⟨p,15,none⟩ v'):=by
 obtain⟨⟨c1,hx1,hf1,hrv,hcb⟩,hblk,hbw,hid⟩:=h
 obtain⟨hlp,lv,hv,xv,sv,uv,hbp,hrp⟩:=hrv
 generalize hM:({m with fr:=r.id,vw:=r.vw}:Ms Op)=M at*
 have hMo:M.ops=m.ops:=by rw[←hM]
 have hb1:Below wr.heap.size wr (wr.alloc (.cells (msC M ov).toArray 37)):=(Below.refl _ _).alloc (Nat.le_refl _) _
 have hs1:(wr.alloc (.cells (msC M ov).toArray 37)).heap.size=wr.heap.size+1:=World.size_alloc _ _
 have hb12:Below wr.heap.size wr w2:=hb1.trans (hb2.mono Z11)
 have hs2:wr.heap.size+1≤w2.heap.size:=by rw[←hs1];exact hb2.size
 have hpl:=hbp.lt
 have hbl:=hblk.lt
 have hnew':NewO (wr.alloc (.cells (msC M ov).toArray 37)).heap.size w2 v2 M.ops:=by rw[hs1,hMo];exact hnew
 obtain⟨hl2,hrow2⟩:=hnew'.row (upd c1 wr.heap.size 1) 3 3
 generalize hc2:(Lb.new (upd c1 wr.heap.size 1) (wr.alloc (.cells (msC M ov).toArray 37)).heap.size v2 3 3)=c2 at*
 have hl12:Lx wr c1 c2:=fun k hk=>(hl2 k (by rw[hs1];omega)).trans (upd_ne' _ _ Z11)
 have hc28:c2 wr.heap.size=1:=(hl2 _ (by rw[hs1];omega)).trans (by unfold upd;rw[if_pos rfl])
 generalize hw3:w2.setCell ⟨wr.heap.size,5,none⟩ v2=w3 at*
 have hs3:w3.heap.size=w2.heap.size:=by rw[←hw3];exact set_size _ _ _
 have hh3: ∀k,k≠wr.heap.size→w3.heap[k]?=w2.heap[k]?:=fun k hk=>by rw[←hw3];exact set_heap_ne _ _ _ _ _ hk
 have hb3:Below wr.heap.size wr w3:=by rw[←hw3];exact hb12.setCell (Nat.le_refl _) _
 have h8:Blk w3 wr.heap.size 37 (msC M v2):=by
  have h1:Blk w2 wr.heap.size 37 (msC M ov):=(hb2.block wr.heap.size Z11).trans (Blk.new wr 37 (msC M ov))
  rw[←hw3]
  exact h1.set 5 v2
 have hrow3:Row (opE 3) c2 3 w3 v2 M.ops:=hrow2.keep (opE_ok 3) (Lx.refl _ _) fun k hk hl=>hh3 k fun e=>by
  subst e
  rw[hc28] at hl
  rcases hl with hl|hl
  ·exact absurd (show(1:Nat)=3 from hl) Z37
  ·exact absurd hl Z37
 have hrp3:RP i c2 w3 q lv hv xv sv uv:=hrp.below hl12 hb3
 have hbp3:Blk w3 p 94 (rpC q lv hv xv sv uv):=hbp.below hb3 hpl
 generalize hw4:(w3.alloc (.cells (sdC ⟨k,M⟩ v2).toArray 53)).drew=w4 at*
 have hb4:Below w3.heap.size w3 w4:=by rw[←hw4];exact((Below.refl w3.heap.size w3).alloc (Nat.le_refl _) _).drew
 have hrd4:Rd w4 10 (.slice (some ⟨w3.heap.size,0,none⟩) 1 1) 1 (sdC ⟨k,M⟩ v2):=by
  have h1:Rd (w3.alloc (.cells (sdC ⟨k,M⟩ v2).toArray 53)).drew 10 (.slice (some ⟨w3.heap.size,0,none⟩) 1 1) 1 (sdC ⟨k,M⟩ v2):=rd_new w3 10 1 (sdC ⟨k,M⟩ v2) 53 rfl
  rw[hw4] at h1
  exact h1
 have hin4:Inn (sdE 3) c2 w4 [⟨k,M⟩] [v2]:=⟨rfl,fun j a u ha hu=>by
  rcases j with _|j
  ·simp at ha hu
   subst ha hu
   have h1:SlR (opE 3) c2 3 w4 v2 M.ops:=(hrow3.keep (opE_ok 3) (Lx.refl _ _) fun k hk _=>hb4.block k hk).sl
   exact(⟨h1,by rw[hMo];exact hml⟩:SdI 3 c2 w4 v2 ⟨k,M⟩)
  ·simp at ha⟩
 have hrp4:=hrp3.below (Lx.refl w3 c2) hb4
 obtain⟨v',w5,hrun,hlx5,hrow5,hfr5,hbl5⟩:=hrp4.ou.app (t:=44) (ty:=44) (m:= [⟨k,M⟩]) (sdE_ok 3) Tryz.underlying44 sd_row rfl ⟨[v2],hin4,by
  have:flat (sdE 3) [⟨k,M⟩] [v2]=sdC ⟨k,M⟩ v2:=by simp[flat,sdE]
  rw[this];exact hrd4⟩ (fun e=>by have:15+10*i=3:=e;omega) (by simp only[List.length_cons,List.length_nil];omega) (by simp only[List.length_cons,List.length_nil];unfold maxLen;omega)
 have hp4:p<w4.heap.size:=Nat.lt_of_lt_of_le hbp3.lt hb4.size
 have hcp:c2 p=10+10*i:=(hl12 p hpl).trans hlp
 have hbp5:Blk w5 p 94 (rpC q lv hv xv sv uv):=(hfr5.block p hp4 fun e=>by rw[hcp] at e;omega).trans (hbp3.below hb4 hbp3.lt)
 obtain⟨va,vc,ev⟩:=hrow5.slice
 have hkeep: ∀k,k<w4.heap.size→c2 k≠15+10*i→c2 k≠10+10*i→(w5.setCell ⟨p,15,none⟩ v').heap[k]?=w4.heap[k]?:=fun k hk h1 h2=>by
  rw[set_heap_ne _ _ _ _ _ (fun e=>h2 (by rw[e];exact hcp))]
  exact hfr5.block k hk h1
 have hs5:(w5.setCell ⟨p,15,none⟩ v').heap.size=w5.heap.size:=set_size _ _ _
 have hlt4: ∀k,k<wr.heap.size→k<w4.heap.size:=fun k hk=>Nat.lt_of_lt_of_le hk (Nat.le_trans hb3.size hb4.size)
 refine⟨lv,hv,xv,sv,uv,v',w5,hbp3,h8,hrun,⟨va,vc,by rw[ev];simp⟩,hbp5.cell 15 rfl,hbp5.frozen 15,⟨c2.row v' (15+10*i),?_,?_,⟨?_,lv,hv,xv,sv,v',?_,?_⟩,?_⟩,?_,hbw,hid⟩
 ·exact(hx1.trans hl12 hf1.size).trans hlx5 (Nat.le_trans hf1.size (Nat.le_trans hb3.size hb4.size))
 ·have f1:Fr (Gi i) c1 wr w4:=(Fr.of_below (F:=Gi i) (c:=c1) (hb3.trans (hb4.mono hb3.size)))
  have f2:Fr (Gi i) c2 w4 w5:=hfr5.mono fun l hl=> .inr hl
  have f3:Fr (Gi i) c2 w4 (w5.setCell ⟨p,15,none⟩ v'):=f2.set _ _ fun _=> .inl hcp
  exact(hf1.trans hx1 f1).trans (hx1.trans hl12 hf1.size) f3
 ·exact(hlx5 p hp4).trans hcp
 ·have:=hbp5.set 15 v'
  exact this
 ·have hrp5: ∀k,k<w4.heap.size→(1≤c2 k∧c2 k≤3)∨(11+10*i≤c2 k∧c2 k≤14+10*i)→(w5.setCell ⟨p,15,none⟩ v').heap[k]?=w4.heap[k]?:=fun k hk hl=>hkeep k hk Z11 Z11
  refine⟨hrp4.lgK hlx5 fun k hk hl=>hrp5 k hk Z11,hrp4.hvK hlx5 fun k hk hl=>hrp5 k hk Z11,hrp4.of.keep hlx5 fun k hk hl=>hrp5 k hk Z11,hrp4.svK hlx5 fun k hk hl=>hrp5 k hk Z11,?_⟩
  refine hrow5.keep (sdE_ok 3) (Lx.refl _ _) fun k hk hl=>set_heap_ne _ _ _ _ _ fun e=> ?_
  subst e
  have h1:c2.row v' (15+10*i) k=10+10*i:=(hlx5 k hp4).trans hcp
  rw[h1] at hl
  rcases hl with hl|hl
  ·have:10+10*i=3:=hl
   omega
  ·omega
 ·refine(hlx5 b (hlt4 b hbl)).trans ((hl12 b hbl).trans hcb)
 ·rw[hM]
  have h1:=hkeep b (hlt4 b hbl) (by rw[hl12 b hbl,hcb];omega) (by rw[hl12 b hbl,hcb];omega)
  exact h1.trans ((hb4.block b (Nat.lt_of_lt_of_le hbl hb3.size)).trans ((hb3.block b hbl).trans hblk))
theorem SN.below {i:Nat}{c:Lb}{w:World}{p b:Nat}{r q:Rp Op}{m:Ms Op}{ov:Value}{wr w':World}(h:SN i c w p b r q m ov wr)(hb:Below wr.heap.size wr w'):SN i c w p b r q m ov w':=by
 obtain⟨⟨c1,hx1,hf1,hrv,hcb⟩,hblk,hbw,hid⟩:=h
 exact⟨⟨c1,hx1,hf1.trans hx1 (Fr.of_below hb),hrv.below (Lx.refl _ _) hb,hcb⟩,hblk.below hb hblk.lt,hbw,hid⟩
theorem snd1_id (m:Ms Op)(r:Rp Op)(k:Nat):(snd1 m r k).id=r.id∧(snd1 m r k).vw=r.vw∧(snd1 m r k).out.length≤r.out.length+1:=by
 unfold snd1
 split
 ·exact⟨rfl,rfl,Z11⟩
 ·exact⟨rfl,rfl,Z93⟩
theorem sndL_len (m:Ms Op): ∀(ks:List Nat) (r:Rp Op),(sndL m r ks).out.length≤r.out.length+ks.length:=by
 intro ks
 induction ks with
 |nil=>intro r;simp[sndL]
 |cons k ks ih=>
  intro r
  have h1:=ih (snd1 m r k)
  have h2:=(snd1_id m r k).2.2
  unfold sndL at h1⊢
  rw[List.foldl_cons,List.length_cons]
  omega
theorem sndL_snoc (m:Ms Op)(r:Rp Op)(ks:List Nat)(k:Nat):sndL m r (ks++ [k])=snd1 m (sndL m r ks) k:=by unfold sndL;rw[List.foldl_append];rfl
theorem snd1_ne (m:Ms Op){q r:Rp Op}{k:Nat}(hk:k≠r.id)(hq:q.id=r.id∧q.vw=r.vw):snd1 m q k= {q with out:=q.out++ [⟨k,{m with fr:=r.id,vw:=r.vw}⟩] }:=by
 unfold snd1
 rw[←hq.1,←hq.2,if_neg (by rw[hq.1];exact hk)]
theorem step_execA {P:Program}{ops:Array Oper}{o:Oper}{a:Act}{w w':World}{v:Value}{K:Act→World→Prop}{Q:Exit→Act→World→Prop}{E:Prop}(hgd:o.guard=none)(hr:(execOp a.eval o).run P w= .ok (.value v) w')(h:K (a.put o.dst v) w'):
 if Region.wanted o (yielded ops a.tmps)=true then Oper.wp P o a w K Q else E:=by
 have hw:Region.wanted o (yielded ops a.tmps)=true:=by simp[Region.wanted,hgd]
 rw[if_pos hw]
 unfold Oper.wp
 simp only[hr]
 exact h
theorem send_any {i lo lt:Nat}{c:Lb}{r:Rp Op}(m:Ms Op)(fr vw:Int)(ks:List Nat)(ov tv:Value)(p:Nat)(w:World)(h:RV i c w p r)(hm:SlR (opE 1) c lo w ov m.ops)(hlo: ¬Gi i lo)(hml:m.ops.length≤1048576)
 (ht:SlR ntE c lt w tv ks) (hlt: ¬Gi i lt) (hks:ks.length≤1000) (hq:r.out.length≤100000):
 Calls Tryz.prog 44 #[.pointer (some ⟨p,0,none⟩),msV m.kd fr vw m.nr m.ao ov m.cm m.sb m.ls,tv] w fun e w'=>e= .returned (.tuple #[])∧ ∃c',Lx w c c'∧Fr (Gi i) c w w'∧RV i c' w' p (sndL m r ks):=by
 obtain⟨ta,tc,et⟩:=ht.slice
 subst et
 obtain⟨oa,oc,eo⟩:=hm.slice
 subst eo
 obtain⟨lv,hv,xv,sv,uv,hbp,hrp⟩:=h.ex
 have y0:=hbp.cell 0 rfl
 have y3:=hbp.cell 3 rfl
 have HH:=Lib.hid (And.intro h (And.intro hm (And.intro hlo (And.intro hml (And.intro ht (And.intro hlt (And.intro hks hq)))))))
 have hpl:=hbp.lt
 have HB0:=Lib.hid (Blk.new w 37 [.int .i64 (m.kd:Int),.int .i64 fr,.int .i64 vw,.int .i64 (m.nr:Int),.int .i64 (m.ao:Int),.slice oa m.ops.length oc,.int .i64 (m.cm:Int),.int .i64 (m.sb:Int),.int .i64 (m.ls:Int)])
 clear hrp h hm hlo hml ht hlt hks hq hbp
 unfold msV
 go_enter Tryz.func44,Tryz.ntmps44
 go_upto_region 1 with fail
 go_region
 have HST:Hid (SN i c w p w.heap.size r r m (.slice oa m.ops.length oc) (w.alloc (.cells #[.int .i64 (m.kd:Int),.int .i64 (r.id:Int),.int .i64 (r.vw:Int),.int .i64 (m.nr:Int),.int .i64 (m.ao:Int),.slice oa m.ops.length oc,.int .i64 (m.cm:Int),.int .i64 (m.sb:Int),.int .i64 (m.ls:Int)] 37)).drew):=Lib.hid (by
  have hb:Below w.heap.size w (w.alloc (.cells #[.int .i64 (m.kd:Int),.int .i64 (r.id:Int),.int .i64 (r.vw:Int),.int .i64 (m.nr:Int),.int .i64 (m.ao:Int),.slice oa m.ops.length oc,.int .i64 (m.cm:Int),.int .i64 (m.sb:Int),.int .i64 (m.ls:Int)] 37)).drew:=((Below.refl _ _).alloc (Nat.le_refl _) _).drew
  have hl:Lx w c (upd c w.heap.size 1):=fun k hk=>upd_ne' _ _ Z11
  exact⟨⟨upd c w.heap.size 1,hl,Fr.of_below hb,HH.out.1.below hl hb,by unfold upd;rw[if_pos rfl]⟩,(Blk.new w 37 _).drew,Nat.le_refl _,rfl,rfl⟩)
 clear y0 y3 HB0
 go_wp2_with fail
 generalize (w.alloc (.cells #[.int .i64 (m.kd:Int),.int .i64 (r.id:Int),.int .i64 (r.vw:Int),.int .i64 (m.nr:Int),.int .i64 (m.ao:Int),.slice oa m.ops.length oc,.int .i64 (m.cm:Int),.int .i64 (m.sb:Int),.int .i64 (m.ls:Int)] 37)).drew=W1 at*
 obtain⟨b4,hb4⟩: ∃b4,b4=w.heap.size:=⟨_,rfl⟩
 rw[←hb4] at HST⊢
 clear hb4
 go_loopw [23] (fun k wr=> ∃j:Nat,k= .int .i64 (j:Int)∧j≤ks.length∧SN i c w p b4 r (sndL m r (ks.take j)) m (.slice oa m.ops.length oc) wr) (fun k _=>ks.length-(intOf k).toNat)
 case atStart=>exact⟨0,rfl,Nat.zero_le _,HST.out⟩
 case round=>
  obtain⟨j,rfl,hj,hst⟩:=hrel
  by_cases hjn:j<ks.length
  case neg=>
   have t1: ¬(j:Int)<(ks.length:Int):=by omega
   have HO:Hid (∃c',Lx w c c'∧Fr (Gi i) c w wr∧RV i c' wr p (sndL m r ks)):=Lib.hid (by
    obtain⟨⟨c1,h1,h2,h3,_⟩,_⟩:=hst
    rw[List.take_of_length_le Z11] at h3
    exact⟨c1,h1,h2,h3⟩)
   clear hst
   go_wp2_with fail
   refine bodyPost_end (results_none rfl _ _ _) rfl ?_
   exact⟨rfl,HO.out⟩
  case pos=>
  have t1:(j:Int)<(ks.length:Int):=by omega
  obtain⟨k,hk⟩: ∃k,ks[j]?=some k:=⟨_,List.getElem?_eq_getElem hjn⟩
  have HTK:Hid (ks.take (j+1)=ks.take j++ [k]):=Lib.hid (by rw[List.take_succ_eq_append_getElem hjn,(List.getElem?_eq_some_iff.1 hk).2])
  obtain⟨c1,hx1,hf1,hrv1,hcb1⟩:=hst.ex
  have hgt: ∀l,ntE.lab l∨l=lt→ ¬Gi i l:=fun l hl=>hl.elim (fun h=>absurd h fun h=>h) fun h=>h▸HH.out.2.2.2.2.2.1
  have hgs:=(HH.out.2.2.2.2.1.fr ntE_ok hx1 hf1 hgt).get ntE_ok hk
  obtain⟨tb,to',tcp,tu,et,-,htc⟩:=hgs
  cases et
  have yt:=htc 0 (.int .i64 (k:Int)) rfl
  simp only[Nat.add_zero] at yt
  rw[show j*ntE.sz=j from Nat.mul_one j] at yt
  obtain⟨lv1,hv1,xv1,sv1,uv1,hbp1,hrp1⟩:=hrv1.ex
  have y0:=hbp1.cell 0 rfl
  rw[hst.id.1] at y0
  have HS:=Lib.hid hst
  have HL:Hid ((sndL m r (ks.take j)).out.length≤1000000):=Lib.hid (by
   have h1:=sndL_len m (ks.take j) r
   have h2:=HH.out.2.2.2.2.2.2
   rw[List.length_take] at h1
   omega)
  have hks9:=HH.out.2.2.2.2.2.2.1
  clear htc hbp1 hrp1 hx1 hf1 hrv1 hcb1 hk hgt
  by_cases hke:k=r.id
  case pos=>
   have t2:((k:Int) !=(r.id:Int))=false:=by rw[hke];simp
   have t3:decide ((k:Int)=(r.id:Int))=true:=by rw[hke];simp
   have HN:Hid (SN i c w p b4 r (sndL m r (ks.take (j+1))) m (.slice oa m.ops.length oc) wr):=Lib.hid (by
    rw[HTK.out,sndL_snoc]
    unfold snd1
    rw[if_pos (hke.trans HS.out.id.1.symm)]
    exact HS.out)
   clear hst hke
   exact Z180
  case neg=>
  have t2:((k:Int) !=(r.id:Int))=true:=by simp;omega
  have t3:decide ((k:Int)=(r.id:Int))=false:=by simp;omega
  have hbk:=hst.bk
  unfold msC at hbk
  have z0:=hbk.cell 0 rfl
  have z1:=hbk.cell 1 rfl
  have z2:=hbk.cell 2 rfl
  have z3:=hbk.cell 3 rfl
  have z4:=hbk.cell 4 rfl
  have z5:=hbk.cell 5 rfl
  have z6:=hbk.cell 6 rfl
  have z7:=hbk.cell 7 rfl
  have z8:=hbk.cell 8 rfl
  have hb4l:=hbk.lt
  have HKE:=Lib.hid hke
  have HID:=Lib.hid hst.id
  clear hst hbk hke
  simp only at z0 z1 z2 z3 z4 z5 z6 z7 z8
  obtain⟨c1,hx1,hf1,hrv1,hcb1⟩:=HS.out.ex
  have hgo: ∀l,(opE 1).lab l∨l=lo→ ¬Gi i l:=fun l hl=>hl.elim (fun h=>by
   have h1:l=1:=h
   unfold Gi;omega) fun h=>h▸HH.out.2.2.1
  have hmr:=HH.out.2.1.fr (opE_ok 1) hx1 hf1 hgo
  have hba:Below wr.heap.size wr (wr.alloc (.cells (msC {m with fr:=r.id,vw:=r.vw} (.slice oa m.ops.length oc)).toArray 37)):=(Below.refl _ _).alloc (Nat.le_refl _) _
  have HOWN:=Lib.hid (own_any m.ops (.slice oa m.ops.length oc) _ (hmr.fr (opE_ok 1) (Lx.refl _ _) (Fr.of_below (F:=fun _=>False) hba) (fun _ _ h=>h)) Z148)
  rw[World.size_alloc] at HOWN
  have HBA:=Lib.hid hba
  unfold msC at HOWN
  simp only at HOWN
  clear hx1 hf1 hrv1 hcb1 hgo hmr hba
  go_wp2_with fail
  clear z0 z1 z2 z3 z4 z5 z6 z7 z8 y0 yt
  refine HOWN.out.mono ?_
  rintro e w2 ⟨v2,rfl,hnew,hb2⟩
  have hst2:=HS.out.step (lo:=lo) HH.out.2.1 HH.out.2.2.1 HH.out.2.2.2.1 k hnew hb2 HL.out
  obtain⟨lv2,hv2,xv2,sv2,uv2,v',w5,g1,g2,hrun,⟨a5,c5,e5⟩,g3,g4,hN⟩:=hst2
  subst e5
  obtain⟨x2,y2,e2⟩: ∃a c,v2= .slice a m.ops.length c:=by
   obtain⟨vs2,_,h2,_⟩:=hnew.ex
   exact(Rd.of_own h2).slice
  subst e2
  obtain⟨b8,hb8⟩: ∃b8,b8=wr.heap.size:=⟨_,rfl⟩
  have h8:Blk w2 wr.heap.size 37 [.int .i64 (m.kd:Int),.int .i64 (r.id:Int),.int .i64 (r.vw:Int),.int .i64 (m.nr:Int),.int .i64 (m.ao:Int),.slice oa m.ops.length oc,.int .i64 (m.cm:Int),.int .i64 (m.sb:Int),.int .i64 (m.ls:Int)]:=(hb2.block wr.heap.size Z11).trans (Blk.new wr 37 _)
  have z5:=h8.cell 5 rfl
  have f5:=h8.frozen 5
  rw[←hb8] at h8 z5 f5 g1 g2 hrun⊢
  have HG:=Lib.hid (And.intro g1 g2)
  have HRUN:=Lib.hid hrun
  have HN:=Lib.hid hN
  clear g1 g2 hrun hN h8 hnew hb2 HOWN HBA hb4l HS hb8
  go_upto_region 8 with fail
  clear z5 f5
  generalize w2.setCell ⟨b8,5,none⟩ (.slice x2 m.ops.length y2)=w3 at*
  have y15:=HG.out.1.cell 15 rfl
  have hg2:=HG.out.2
  unfold msC at hg2
  simp only at hg2
  have z0:=hg2.cell 0 rfl
  have z1:=hg2.cell 1 rfl
  have z2:=hg2.cell 2 rfl
  have z3:=hg2.cell 3 rfl
  have z4:=hg2.cell 4 rfl
  have z5:=hg2.cell 5 rfl
  have z6:=hg2.cell 6 rfl
  have z7:=hg2.cell 7 rfl
  have z8:=hg2.cell 8 rfl
  clear hg2
  have HK:Hid (sndL m r (ks.take (j+1))= {sndL m r (ks.take j) with out:=(sndL m r (ks.take j)).out++ [⟨k,{m with fr:=r.id,vw:=r.vw}⟩] }):=Lib.hid (by
   rw[HTK.out,sndL_snoc]
   exact snd1_ne m HKE.out HID.out)
  unfold sdC at HRUN
  simp only at HRUN
  have y15b:(w3.alloc (.cells #[.int .i64 (k:Int),.int .i64 (m.kd:Int),.int .i64 (r.id:Int),.int .i64 (r.vw:Int),.int .i64 (m.nr:Int),.int .i64 (m.ao:Int),.slice x2 m.ops.length y2,.int .i64 (m.cm:Int),.int .i64 (m.sb:Int),.int .i64 (m.ls:Int)] 53)).cell? ⟨p,15,none⟩=some uv2:=(HG.out.1.alloc _).cell 15 rfl
  go_region_law (refine step_execA Z31 (execA (.tmp 43) (.tmp 47) 44 rfl rfl rfl HRUN.out) ?_)
  all_goals clear z0 z1 z2 z3 z4 z5 z6 z7 z8 y15 y15b HRUN
  all_goals go_wp2_with fail
  all_goals
   go_roundw
   case rel=>exact⟨j+1,Z81,Z11,by rw[HK.out];exact HN.out⟩
   case measure=>simp[intOf];omega
end Go.Proofs.YtdmjegelcdghlaaGreat.Vw
namespace Go.Proofs.YtdmjegelcdghlaaGreat
theorem Z197 {p:Prop}(h:p:=by rw[IntWalk.i64_in _ Z11];omega):p:=h
theorem Z189 {p:Prop}(h:p:=by refine Or.inl ⟨Z31,?_⟩;intro W hSw;go_simp;(try with_reducible rfl)):p:=h
theorem Z41 {p:Prop}(h:p:=by rw[hw1];exact(Below.refl _ _).alloc (Nat.le_refl _) _):p:=h
theorem Z20 {p:Prop}(h:p:=by(simp only[List.getElem?_toArray,List.getElem?_cons_succ,List.getElem?_cons_zero];rfl)):p:=h
theorem Z1 {p:Prop}(h:p:=by refine Or.inl ⟨by rfl,?_⟩;intro W hSw;(try dsimp only at hSw);skip;go_simp;(try with_reducible rfl)):p:=h
end Go.Proofs.YtdmjegelcdghlaaGreat
namespace Go.Proofs.YtdmjegelcdghlaaGreat.Vw
open Go.RowKit Go.Maps
theorem RV.app_lg {i:Nat}{c:Lb}{W:World}{p:Nat}{q:Rp Op}{lv hv xv sv uv:Value}(hp:c p=10+10*i)(hb:Blk W p 94 (rpC q lv hv xv sv uv))(hr:RP i c W q lv hv xv sv uv){xs:Value}{m:List Op}(hx: ∃us,Inn (opE 1) c W m us∧Rd W (opE 1).sz xs m.length (flat (opE 1) m us))(hn:q.log.length+m.length≤1073741824):
 ∃v' W5,(Builtin.append_ #[35,35] 35 #[lv,xs]).run Tryz.prog W= .ok v' W5∧(∃a cp,v'= .slice a (q.log.length+m.length) cp)∧W5.cell? ⟨p,10,none⟩=some lv∧W5.frozen? ⟨p,10,none⟩=false∧
  ∃c',Lx W c c'∧Fr (fun l=>l=10+10*i∨l=11+10*i) c W (W5.setCell ⟨p,10,none⟩ v')∧RV i c' (W5.setCell ⟨p,10,none⟩ v') p {q with log:=q.log++m} ∧Blk W5 p 94 (rpC q lv hv xv sv uv)∧RV i c' (W5.setCell ⟨p,10,none⟩ v') p {q with log:=q.log++m}:=by
 obtain⟨v',W5,hrun,hlx5,hrow5,hfr5,hbl5⟩:=hr.lg.app (t:=35) (ty:=35) (m:=m) (opE_ok 1) Tryz.underlying35 op_row rfl hx (fun e=>by have:11+10*i=1:=e;omega) Z11 Z67
 have hpl:=hb.lt
 have hb5:Blk W5 p 94 (rpC q lv hv xv sv uv):=(hfr5.block p hpl fun e=>by rw[hp] at e;omega).trans hb
 have hkeep: ∀k,k<W.heap.size→c k≠11+10*i→c k≠10+10*i→(W5.setCell ⟨p,10,none⟩ v').heap[k]?=W.heap[k]?:=fun k hk h1 h2=>by
  rw[set_heap_ne _ _ _ _ _ (fun e=>h2 (by rw[e];exact hp))]
  exact hfr5.block k hk h1
 obtain⟨va,vc,ev⟩:=hrow5.slice
 have hRV:RV i (c.row v' (11+10*i)) (W5.setCell ⟨p,10,none⟩ v') p {q with log:=q.log++m}:=by
  refine⟨(hlx5 p hpl).trans hp,v',hv,xv,sv,uv,hb5.set 10 v',?_⟩
  have hnew:Row (opE 1) (c.row v' (11+10*i)) (11+10*i) (W5.setCell ⟨p,10,none⟩ v') v' (q.log++m):=hrow5.keep (opE_ok 1) (Lx.refl _ _) fun k hk hl=>set_heap_ne _ _ _ _ _ fun e=>by
   subst e
   have h1:c.row v' (11+10*i) k=10+10*i:=(hlx5 k hpl).trans hp
   rw[h1] at hl
   rcases hl with hl|hl
   ·have:10+10*i=1:=hl
    omega
   ·omega
  exact⟨hnew,hr.hvK hlx5 (fun k hk hl=>hkeep k hk Z11 Z11),hr.of.keep hlx5 (fun k hk hl=>hkeep k hk Z11 Z11),hr.svK hlx5 (fun k hk hl=>hkeep k hk Z11 Z11),hr.ouK hlx5 (fun k hk hl=>hkeep k hk Z11 Z11)⟩
 refine⟨v',W5,hrun,⟨va,vc,by rw[ev];simp⟩,hb5.cell 10 rfl,hb5.frozen 10,c.row v' (11+10*i),hlx5,?_,hRV,hb5,hRV⟩
 exact(hfr5.mono fun l hl=> .inr hl).set _ _ fun _=> .inl hp
theorem RV.app_sv {i:Nat}{c:Lb}{W:World}{p:Nat}{q:Rp Op}{lv hv xv sv uv:Value}(hp:c p=10+10*i)(hb:Blk W p 94 (rpC q lv hv xv sv uv))(hr:RP i c W q lv hv xv sv uv){xs:Value}{m:List (Sv Op)}(hx: ∃us,Inn (svE 2) c W m us∧Rd W (svE 2).sz xs m.length (flat (svE 2) m us))(hn:q.saves.length+m.length≤1073741824):
 ∃v' W5,(Builtin.append_ #[42,42] 42 #[sv,xs]).run Tryz.prog W= .ok v' W5∧(∃a cp,v'= .slice a (q.saves.length+m.length) cp)∧W5.cell? ⟨p,14,none⟩=some sv∧W5.frozen? ⟨p,14,none⟩=false∧
  ∃c',Lx W c c'∧Fr (fun l=>l=10+10*i∨l=14+10*i) c W (W5.setCell ⟨p,14,none⟩ v')∧RV i c' (W5.setCell ⟨p,14,none⟩ v') p {q with saves:=q.saves++m} ∧Blk W5 p 94 (rpC q lv hv xv sv uv)∧RV i c' (W5.setCell ⟨p,14,none⟩ v') p {q with saves:=q.saves++m}:=by
 obtain⟨v',W5,hrun,hlx5,hrow5,hfr5,hbl5⟩:=hr.sv.app (t:=42) (ty:=42) (m:=m) (svE_ok 2) Tryz.underlying42 sv_row rfl hx (fun e=>by have:14+10*i=2:=e;omega) Z11 Z67
 have hpl:=hb.lt
 have hb5:Blk W5 p 94 (rpC q lv hv xv sv uv):=(hfr5.block p hpl fun e=>by rw[hp] at e;omega).trans hb
 have hkeep: ∀k,k<W.heap.size→c k≠14+10*i→c k≠10+10*i→(W5.setCell ⟨p,14,none⟩ v').heap[k]?=W.heap[k]?:=fun k hk h1 h2=>by
  rw[set_heap_ne _ _ _ _ _ (fun e=>h2 (by rw[e];exact hp))]
  exact hfr5.block k hk h1
 obtain⟨va,vc,ev⟩:=hrow5.slice
 have hRV:RV i (c.row v' (14+10*i)) (W5.setCell ⟨p,14,none⟩ v') p {q with saves:=q.saves++m}:=by
  refine⟨(hlx5 p hpl).trans hp,lv,hv,xv,v',uv,hb5.set 14 v',?_⟩
  have hnew:Row (svE 2) (c.row v' (14+10*i)) (14+10*i) (W5.setCell ⟨p,14,none⟩ v') v' (q.saves++m):=hrow5.keep (svE_ok 2) (Lx.refl _ _) fun k hk hl=>set_heap_ne _ _ _ _ _ fun e=>by
   subst e
   have h1:c.row v' (14+10*i) k=10+10*i:=(hlx5 k hpl).trans hp
   rw[h1] at hl
   rcases hl with hl|hl
   ·have:10+10*i=2:=hl
    omega
   ·omega
  exact⟨hr.lgK hlx5 (fun k hk hl=>hkeep k hk Z11 Z11),hr.hvK hlx5 (fun k hk hl=>hkeep k hk Z11 Z11),hr.of.keep hlx5 (fun k hk hl=>hkeep k hk Z11 Z11),hnew,hr.ouK hlx5 (fun k hk hl=>hkeep k hk Z11 Z11)⟩
 refine⟨v',W5,hrun,⟨va,vc,by rw[ev];simp⟩,hb5.cell 14 rfl,hb5.frozen 14,c.row v' (14+10*i),hlx5,?_,hRV,hb5,hRV⟩
 exact(hfr5.mono fun l hl=> .inr hl).set _ _ fun _=> .inl hp
structure LI (r:Rp Op):Prop where
 n:1≤r.n∧r.n≤7
 id:r.id<r.n
 vw:r.vw≤TM
 nr:r.nr≤r.vw
 bs:r.bs≤r.td∧r.td≤r.cm∧r.cm≤r.ls∧r.sb≤r.cm
 ls:r.ls=r.bs+r.log.length
 lo:r.log.length≤1000000∧r.bs≤2*TM
 hv:r.hv.length=r.n
 sv:r.saves.length≤50000
 ou:r.out.length≤50000
theorem slice_int (w:World)(t:TypeId)(a:Option Addr)(n cap k:Nat)(ht:Tryz.prog.underlying t=some (.slice (Tryz.prog.elem t))){s:Nat}(hs:(sizeOf (Tryz.prog.elem t)).run Tryz.prog w= .ok s w)(h:k≤n):
 (Instr.slice t (.slice a n cap) (some (.int .i64 (k:Int))) none none).run Tryz.prog w= .ok (.slice (if cap=k then a else a.map (·.add (k*s))) (n-k) (cap-k)) w:=sl_back w t a n cap k .i64 ht hs h
theorem Inn.one {α:Type}{E:Ek α}{c:Lb}{W:World}{u:Value}{a:α}(h:E.inn c W u a):Inn E c W [a] [u]:=⟨rfl,fun i x y hx hy=>by
 cases i with
 |zero=>cases hx;cases hy;exact h
 |succ i=>simp at hx⟩
theorem flat_single {α:Type}(E:Ek α)(a:α)(u:Value):flat E [a] [u]=E.cel a u:=by simp[flat]
theorem NewO.slice {B:Nat}{w':World}{v':Value}{l:List Op}(h:NewO B w' v' l): ∃a c,v'= .slice a l.length c:=by
 obtain⟨vs2,_,h2,_⟩:=h.ex
 exact(Rd.of_own h2).slice
theorem save_any {i:Nat}{c:Lb}{r:Rp Op}(a:Nat)(p:Nat)(w:World)(h:RV i c w p r)(hl:LI r)(ha:r.bs≤a∧a≤r.ls):
 Calls Tryz.prog 49 #[.pointer (some ⟨p,0,none⟩),.int .i64 (a:Int)] w fun e w'=>e= .returned (.tuple #[])∧ ∃c',Lx w c c'∧Fr (fun l=>l=10+10*i∨l=14+10*i) c w w'∧RV i c' w' p (save r a):=by
 obtain⟨hlp,lv,hv,xv,sv,uv,hbp,hrp⟩:=h
 obtain⟨la,lc,el⟩:=hrp.lg.slice
 subst el
 have HH:=Lib.hid (And.intro hlp (And.intro hbp (And.intro hrp (And.intro hl ha))))
 have hcs:=hbp
 unfold rpC at hcs
 have y0:=hcs.cell 0 rfl
 have y1:=hcs.cell 1 rfl
 have y2:=hcs.cell 2 rfl
 have y3:=hcs.cell 3 rfl
 have y4:=hcs.cell 4 rfl
 have y5:=hcs.cell 5 rfl
 have y6:=hcs.cell 6 rfl
 have y7:=hcs.cell 7 rfl
 have y8:=hcs.cell 8 rfl
 have y9:=hcs.cell 9 rfl
 have hpl:=hbp.lt
 clear hlp hbp hrp hl ha hcs
 go_enter Tryz.func49,Tryz.ntmps49
 go_upto_region 1 with fail
 obtain⟨w1,hw1⟩: ∃w1,w1=w.alloc (.cells #[.int .i64 (r.id:Int),.int .i64 (r.n:Int),.int .i64 (r.st:Int),.int .i64 (r.vw:Int),.int .i64 (r.nr:Int),.int .i64 (r.bs:Int),.int .i64 (r.td:Int),.int .i64 (r.cm:Int),.int .i64 (r.sb:Int),.int .i64 (r.ls:Int)] 39):=⟨_,rfl⟩
 obtain⟨b1,hb1⟩: ∃b1,b1=w.heap.size:=⟨_,rfl⟩
 have HB1:Hid (Below w.heap.size w w1):=Lib.hid Z41
 have HS1:Hid (Blk w1 b1 39 [.int .i64 (r.id:Int),.int .i64 (r.n:Int),.int .i64 (r.st:Int),.int .i64 (r.vw:Int),.int .i64 (r.nr:Int),.int .i64 (r.bs:Int),.int .i64 (r.td:Int),.int .i64 (r.cm:Int),.int .i64 (r.sb:Int),.int .i64 (r.ls:Int)]):=Lib.hid (by rw[hw1,hb1];exact Blk.new w 39 _)
 have HP1:=Lib.hid (HH.out.2.1.below HB1.out HH.out.2.1.lt)
 have HR1:=Lib.hid (HH.out.2.2.1.below (Lx.refl w c) HB1.out)
 rw[←hw1,←hb1]
 clear y0 y1 y2 y3 y4 y5 y6 y7 y8 y9 hw1 hb1
 have hli:=HH.out.2.2.2.1
 have hra:=HH.out.2.2.2.2
 have hl9:r.log.length≤1000000:=hli.lo.1
 obtain⟨k,hk⟩: ∃k,k=a-r.bs:=⟨_,rfl⟩
 have hkl:k≤r.log.length:=by have:=hli.ls;omega
 have hwr:IntKind.i64.wrap ((a:Int)-(r.bs:Int))=(k:Int):=by
  have h1:=hli.lo.2
  have h2:TM=1099511627776:=rfl
  have h3:=hli.ls
  exact Z197
 have HSL:=HR1.out.lg.sl.back (opE_ok 1) rfl k hkl
 obtain⟨oa,hoa⟩: ∃oa,oa=(if lc=k then la else la.map (·.add (k*16))):=⟨_,rfl⟩
 rw[show(opE 1).sz=16 from rfl,←hoa] at HSL
 have hsl: ∀W,(Instr.slice 35 (.slice la r.log.length lc) (some (.int .i64 (k:Int))) none none).run Tryz.prog W= .ok (.slice oa (r.log.length-k) (lc-k)) W:=fun W=>by
  rw[hoa]
  exact slice_int W 35 la r.log.length lc k rfl (s:=16) Z27 hkl
 have hdl:(r.log.drop k).length=r.log.length-k:=List.length_drop
 have HOWN:=Lib.hid (fun W (hb:Below w1.heap.size w1 W)=>own_any (r.log.drop k) _ W (HSL.fr (opE_ok 1) (Lx.refl _ _) (Fr.of_below (F:=fun _=>False) hb) (fun _ _ h=>h)) (by rw[hdl];omega))
 have HK:Hid (a-r.bs=k∧r.saves.length≤100000∧(r.log.drop k).length≤1048576):=Lib.hid ⟨hk.symm,Nat.le_trans hli.sv Z37,by rw[hdl];omega⟩
 clear HSL hoa hdl hk hli hra hkl hl9
 refine wp_region_K (fun W=>W.cell? ⟨b1,3,none⟩=some (.int .i64 (r.vw:Int))∧W.cell? ⟨b1,5,none⟩=some (.int .i64 (r.bs:Int))∧W.cell? ⟨b1,8,none⟩=some (.int .i64 (r.sb:Int))∧W.cell? ⟨p,14,none⟩=some sv∧W.cell? ⟨p,10,none⟩=some (.slice la r.log.length lc)) 22 Z27 ?_ (fun hHeld1=> ?_)
 ·exact⟨HS1.out.cell 3 rfl,HS1.out.cell 5 rfl,HS1.out.cell 8 rfl,HP1.out.cell 14 rfl,HP1.out.cell 10 rfl⟩
 refine tkP 0 ?_ (y:=Z189)
 try simp only[ap]
 refine tkK 1 ?_ (y:=Z1)
 try simp only[ap]
 refine tkK 2 ?_ (y:=Z1)
 try simp only[ap]
 refine tkK 3 ?_ (y:=Z1)
 try simp only[ap]
 refine tkK 4 ?_ (y:=Z1)
 try simp only[ap]
 refine tkK 5 ?_ (y:=Z1)
 try simp only[ap]
 refine tkK 6 ?_ (y:=Z1)
 try simp only[ap]
 refine tkK 7 ?_ (y:=Z1)
 try simp only[ap]
 refine tkK 8 ?_ (y:=Z1)
 try simp only[ap]
 refine tkK 9 ?_ (y:=Z1)
 try simp only[ap]
 refine tkK 10 ?_ (y:=Z1)
 try simp only[ap]
 refine tkK 11 ?_ (y:=Z1)
 try simp only[ap]
 refine tkK 12 ?_ (y:=Z1)
 try simp only[ap]
 refine tkK 13 ?_ (y:=Z1)
 try simp only[ap]
 refine tkK 14 ?_ (y:=Z1)
 try simp only[ap]
 refine tkK 15 ?_ (y:=Z1)
 try simp only[ap]
 refine tkK 16 ?_ (y:=Z1)
 try simp only[ap]
 refine tkK 18 ?_ (y:=Z1)
 try simp only[ap]
 refine tkK 19 ?_ (y:=Z1)
 try simp only[ap]
 refine wpAnyK_ready (rs:= [17]) Z27 Z93 ?_
 refine AllReadyK.cons (o:= ?oi20) ?hi20 (fun K hK=> ?hs20) AllReadyK.nil
 case hi20=>exact Z20
 go_simp
 refine(HOWN.out _ (Below.refl _ _).drew).mono ?_
 rintro e w2 ⟨v2,rfl,hnew,hb2⟩
 have HB2:=Lib.hid ((Below.refl w1.heap.size w1).drew.trans hb2)
 have HNW:=Lib.hid hnew
 have HS2:=Lib.hid (HS1.out.below HB2.out HS1.out.lt)
 have HP2:=Lib.hid (HP1.out.below HB2.out HP1.out.lt)
 obtain⟨va2,vc2,ev2⟩:=hnew.slice
 subst ev2
 clear hnew hb2
 go_wp2_with fail
 refine hK.out _ _ ?_ (fun hHeld2=> ?_)
 ·exact⟨HS2.out.cell 3 rfl,HS2.out.cell 5 rfl,HS2.out.cell 8 rfl,HP2.out.cell 14 rfl,HP2.out.cell 10 rfl⟩
 clear hK
 try simp only[ap]
 refine tkK 20 ?_ (y:=Z1)
 try simp only[ap]
 refine wpAnyK_ready (rs:= [21]) Z27 Z93 ?_
 refine AllReadyK.cons (o:= ?oi22) ?hi22 (fun K hK=> ?hs22) AllReadyK.nil
 case hi22=>exact Z20
 go_simp
 refine hK.out _ _ ?_ (fun hHeld3=> ?_)
 ·exact⟨(HS2.out.alloc _).cell 3 rfl,(HS2.out.alloc _).cell 5 rfl,(HS2.out.alloc _).cell 8 rfl,(HP2.out.alloc _).cell 14 rfl,(HP2.out.alloc _).cell 10 rfl⟩
 clear hK
 try simp only[ap]
 refine wpAnyK_lasts [23,24,25] Z27 Z31 Z31 ?_
 simp only[List.filterMap_cons,List.filterMap_nil,List.getElem?_toArray,List.getElem?_cons_succ,List.getElem?_cons_zero]
 have hrw:=HNW.out.row c 2 2
 have hR2:=HR1.out.below hrw.1 HB2.out
 have hba:Below w2.heap.size w2 (w2.alloc (.cells #[.bool true,.int .i64 (r.vw:Int),.int .i64 (a:Int),.slice va2 (r.log.drop k).length vc2,.int .i64 (r.sb:Int)] 51)):=(Below.refl _ _).alloc (Nat.le_refl _) _
 have happ:=RV.app_sv (W:=w2.alloc (.cells #[.bool true,.int .i64 (r.vw:Int),.int .i64 (a:Int),.slice va2 (r.log.drop k).length vc2,.int .i64 (r.sb:Int)] 51)) ((hrw.1 p HP1.out.lt).trans HH.out.1) (HP2.out.alloc _) (hR2.below (Lx.refl _ _) hba) (xs:= .slice (some ⟨w2.heap.size,0,none⟩) 1 1) (m:= [⟨true,r.vw,a,r.log.drop k,r.sb⟩]) ⟨[.slice va2 (r.log.drop k).length vc2],Inn.one (E:=svE 2) (show SvI 2 _ _ _ (⟨true,r.vw,a,r.log.drop k,r.sb⟩:Sv Op) from⟨hrw.2.sl.fr (opE_ok 2) (Lx.refl _ _) (Fr.of_below (F:=fun _=>False) hba) (fun _ _ h=>h),HK.out.2.2⟩),by rw[flat_single];exact rd_new w2 5 1 _ 51 rfl⟩ (by have:=HK.out.2.1;simp only[List.length_cons,List.length_nil];omega)
 obtain⟨v',w5,hrun,⟨a5,c5,e5⟩,g3,g4,c',hx5,hf5,hv5,-⟩:=happ
 subst e5
 have hdl2:(r.log.drop k).length=r.log.length-k:=List.length_drop
 rw[hdl2] at hrun
 have HRUN:=Lib.hid hrun
 have HD:Hid (∃c',Lx w c c'∧Fr (fun l=>l=10+10*i∨l=14+10*i) c w (w5.setCell ⟨p,14,none⟩ (.slice a5 (r.saves.length+ [(⟨true,r.vw,a,r.log.drop k,r.sb⟩:Sv Op)].length) c5))∧RV i c' (w5.setCell ⟨p,14,none⟩ (.slice a5 (r.saves.length+ [(⟨true,r.vw,a,r.log.drop k,r.sb⟩:Sv Op)].length) c5)) p (save r a)):=Lib.hid (by
  have h1:Below w.heap.size w (w2.alloc (.cells #[.bool true,.int .i64 (r.vw:Int),.int .i64 (a:Int),.slice va2 (r.log.drop k).length vc2,.int .i64 (r.sb:Int)] 51)):=HB1.out.trans ((HB2.out.trans (hba.mono HB2.out.size)).mono HB1.out.size)
  have h2:Lx w c (c.new w1.drew.heap.size (.slice va2 (r.log.drop k).length vc2) 2 2):=fun j hj=>hrw.1 j (Nat.lt_of_lt_of_le hj HB1.out.size)
  refine⟨c',h2.trans hx5 h1.size,(Fr.of_below h1).trans h2 hf5,?_⟩
  have h3:save r a= {r with saves:=r.saves++ [⟨true,r.vw,a,r.log.drop k,r.sb⟩] }:=by unfold save;rw[HK.out.1]
  rw[h3]
  exact hv5)
 clear hrun hba hR2 hrw hdl2 hx5 hf5 hv5 hHeld1 hHeld2 hHeld3 hwr hsl
 refine wpList_execA rfl (execA (.tmp 13) (.tmp 30) 42 rfl rfl rfl HRUN.out) ?_
 try simp only[ap]
 refine wpList_step fun K hK=> ?_
 rw[if_pos Z31]
 go_simp
 refine hK _ _ ?_
 clear hK
 try simp only[ap]
 refine wpList_step fun K hK=> ?_
 rw[if_pos Z31]
 go_simp
 refine hK _ _ ?_
 clear hK
 try simp only[ap]
 refine wpList_step fun K hK=> ?_
 rw[if_pos Z31]
 go_simp
 refine hK _ _ ?_
 clear hK
 try simp only[ap]
 go_wp2_with fail
 refine bodyPost_end (results_none rfl _ _ _) rfl ?_
 exact⟨rfl,HD.out⟩
def ints (l:List Nat):List Int:=l.map Int.ofNat
theorem has_ints (l:List Nat)(i:Nat):Qs.has (ints l) i=((l.getD i 0:Nat):Int):=by
 unfold Qs.has ints
 rw[List.getD_eq_getElem?_getD,List.getElem?_map,List.getD_eq_getElem?_getD]
 cases l[i]?<;>simp
theorem cnt_ints (l:List Nat)(c n:Nat):Qs.cnt (ints l) (c:Int) n=hasN l c n:=by
 rw[Qs.cnt_countP,List.countP_map]
 unfold hasN
 refine List.countP_congr fun k _=> ?_
 simp only[Function.comp,has_ints,decide_eq_true_eq]
 omega
theorem rank_spec (l:List Nat)(N M:Nat)(h1:1≤M)(h2:M≤N)(b:Nat)(hb: ∀i,i<N→l.getD i 0≤b):(Qs.rising (ints l) N).getD (N-M) 0=((most l N M b:Nat):Int):=by
 have hlen:=Qs.rising_len (ints l) N
 have hd:N-M<(Qs.rising (ints l) N).length:=by omega
 have hy:(Qs.rising (ints l) N).getD (N-M) 0=(Qs.rising (ints l) N)[N-M]:=by simp[List.getD,hd]
 have hs:=List.pairwise_iff_getElem.1 (Qs.rising_sorted (ints l) N)
 have hmem:(Qs.rising (ints l) N)[N-M]∈(List.range N).map (Qs.has (ints l)):=(Qs.rising_perm (ints l) N).mem_iff.1 (List.getElem_mem hd)
 obtain⟨i,hi,hiy⟩:=List.mem_map.1 hmem
 rw[List.mem_range] at hi
 rw[has_ints] at hiy
 rw[hy,←hiy]
 generalize hR:l.getD i 0=R at*
 have hRb:R≤b:=by rw[←hR];exact hb i hi
 have hge:M≤hasN l R N:=by
  rw[←cnt_ints,Qs.cnt_rising,hiy]
  have e:(Qs.rising (ints l) N).countP (fun y=>decide ((Qs.rising (ints l) N)[N-M]≤y))=_:=congrArg (List.countP _) (List.take_append_drop (N-M) (Qs.rising (ints l) N)).symm
  rw[e,List.countP_append]
  have:((Qs.rising (ints l) N).drop (N-M)).countP (fun y=>decide ((Qs.rising (ints l) N)[N-M]≤y))=((Qs.rising (ints l) N).drop (N-M)).length:=by
   rw[List.countP_eq_length]
   intro z hz
   obtain⟨j,hj,rfl⟩:=List.getElem_of_mem hz
   rw[List.getElem_drop]
   by_cases hj0:j=0
   ·subst hj0;simp
   ·exact decide_eq_true (hs _ _ _ _ Z11)
  rw[this,List.length_drop];omega
 have hle: ∀c,R<c→hasN l c N<M:=by
  intro c hc
  rw[←cnt_ints,Qs.cnt_rising]
  have e:(Qs.rising (ints l) N).countP (fun y=>decide ((c:Int)≤y))=_:=congrArg (List.countP _) (List.take_append_drop (N-M+1) (Qs.rising (ints l) N)).symm
  rw[e,List.countP_append]
  have hz:((Qs.rising (ints l) N).take (N-M+1)).countP (fun y=>decide ((c:Int)≤y))=0:=by
   rw[List.countP_eq_zero]
   intro z hz
   obtain⟨q,hq,rfl⟩:=List.getElem_of_mem hz
   rw[List.length_take] at hq
   rw[List.getElem_take,decide_eq_true_iff]
   by_cases hqe:q=N-M
   ·subst hqe;omega
   ·have:=hs q (N-M) Z11 hd Z11;omega
  have hle:=List.countP_le_length (p:=fun y=>decide ((c:Int)≤y)) (l:=(Qs.rising (ints l) N).drop (N-M+1))
  rw[List.length_drop] at hle
  omega
 congr 1
 have aux: ∀b,R≤b→most l N M b=R:=by
  intro b
  induction b with
  |zero=>intro h;unfold most;omega
  |succ b ih=>
   intro h
   unfold most
   by_cases e:R=b+1
   ·rw[if_pos (by rw[←e];exact hge),e]
   ·rw[if_neg (by have:=hle (b+1) Z11;omega)]
    exact ih Z11
 exact(aux b hRb).symm
theorem reached_rch (l:List Nat)(n b:Nat)(hn:1≤n∧n≤7)(hb: ∀i,i<n→l.getD i 0≤b):Qs.reached (ints l) (n:Int)=((rch l n b:Nat):Int):=by
 have hm:Qs.maj (n:Int)=((n/2+1:Nat):Int):=by unfold Qs.maj;rw[if_neg Z11];omega
 unfold Qs.reached rch
 rw[if_neg Z11,hm,←rank_spec l n (n/2+1) Z11 Z11 b hb,Int.toNat_natCast]
 congr 1
 omega
theorem stable_stb (l:List Nat)(n b:Nat)(hn:1≤n∧n≤7)(hb: ∀i,i<n→l.getD i 0≤b):Qs.stable (ints l) (n:Int)=((stb l n b:Nat):Int):=by
 unfold Qs.stable stb
 rw[if_neg Z11,←rank_spec l n n Z11 Z11 b hb,Int.toNat_natCast,Nat.sub_self]
theorem most_le (l:List Nat)(n m:Nat): ∀b,most l n m b≤b:=by
 intro b
 induction b with
 |zero=>simp[most]
 |succ b ih=>unfold most;split<;>omega
end Go.Proofs.YtdmjegelcdghlaaGreat.Vw
