/-
  Chapter 22: the map of offers; mine.
-/
import Derived.Test.YtdmjegelcdghlaaGreatGGen
import Derived.Test.YtdmjegelcdghlaaGreatGDg
import Derived.Test.YtdmjegelcdghlaaGreatGQs
set_option maxRecDepth 100000
set_option maxHeartbeats 64000000
set_option linter.unusedVariables false
set_option linter.unusedSimpArgs false
namespace Go.Proofs.YtdmjegelcdghlaaGreat
theorem Z156 {p:Prop}(h:p:=by exact Nat.le_trans (List.length_filterMap_le _ _) (by rw[List.length_range];exact Nat.le_refl _)):p:=h
theorem Z36 {p:Prop}(h:p:=by
 go_wp2_with fail
 refine bodyPost_end (results_none rfl _ _ _) rfl ?_
 exact⟨rfl,HD.out⟩):p:=h
end Go.Proofs.YtdmjegelcdghlaaGreat
namespace Go.Proofs.YtdmjegelcdghlaaGreat.Vw
open Go.RowKit Go.Maps
theorem ikeyLit (k:Nat):WideAt.IsKeyLit (.int .i64 (k:Int)):=by simp[WideAt.IsKeyLit]
theorem ikeyOf (k:Nat)(hk:k≤1000000):keyOf Tryz.prog 3 (.int .i64 (k:Int))=some (.int .i64 (k:Int)):=Maps.keyOf_int_mk Tryz.underlying3 (by
 simp only[Lit.wf,Bool.and_eq_true,decide_eq_true_eq]
 rw[show IntKind.i64.min= -9223372036854775808 from rfl,show IntKind.i64.max=9223372036854775807 from rfl]
 omega)
theorem tightO {W:World}{m n:Nat}{D:DataW Value}(h:W.ownsMap Tryz.prog 3 heldR m n D):W.ownsMap Tryz.prog 3 heldR m (Maps.size D) D:=by
 obtain⟨es,clock,hb,F,hs,rfl⟩:=h
 exact⟨es,clock,hb,F,by simp[Maps.size,length_sorted],rfl⟩
theorem OfM.made (li:Nat)(c:Lb)(W:World)(n:Nat):OfM li c (W.alloc (.map #[] 0)) W.heap.size n (fun _=>none):=by
 have h0:cntO (fun _=>none) n=0:=by unfold cntO;simp
 refine⟨.map [],fun _=>undef,?_,?_,fun k o h=>(by cases h),fun k _=>rfl⟩
 ·rw[h0];exact World.ownsMap_made _ _ _ _
 ·rw[h0];rfl
theorem OfM.put {li:Nat}{c:Lb}{W:World}{m n:Nat}{f:Nat→Option (Of Op)}(h:OfM li c W m n f)(hc:c m≠li){k:Nat}(hk:k<n)(hn:n≤1000)(o:Of Op)(u:Value)(hu:SlR (opE li) c li W u o.ops)(hl:o.ops.length≤1048576):
 ∃W',(Instr.mapUpdate 92 (.map (some m)) (.int .i64 (k:Int)) (ofV o u)).run Tryz.prog W= .ok () W'∧W.grownBy W' (some m)∧OfM li c W' m n (upd f k (some o)):=by
 obtain⟨D,us,h1,h2,h3,h4⟩:=h.ex
 have hcn:cntO f n≤n:=by
  unfold cntO
  exact Z156
 obtain⟨W',hrun,hown,hg⟩:=h1.update (key:= .int .i64 (k:Int)) (val:=ofV o u) (kl:= .int .i64 (k:Int)) (d:= .held (ofV o u)) (ps:= []) ikey Tryz.underlying92 Z67 (ikeyOf k Z11) rfl
 have hti:=h1.tidy ikey
 have hkeep: ∀j,j<W.heap.size→c j=li→W'.heap[j]?=W.heap[j]?:=fun j hj hl=>hg.block j hj fun e=>hc (by cases e;exact hl)
 have hhas:has D (.int .i64 (k:Int))=(f k).isSome:=by
  cases hf:f k with
  |none=>exact h4 k hf
  |some o'=>rw[(h3 k o' hf).2.1];rfl
 have hsz:Maps.size (D.put (.int .i64 (k:Int)) (.held (ofV o u)))=cntO (upd f k (some o)) n:=by
  rw[size_put hti,hhas,cntO_upd f n k o hk,h2]
 refine⟨W',hrun,hg,⟨_,upd us k u,by rw[←hsz];exact tightO hown,hsz,fun j o' hj=> ?_,fun j hj=> ?_⟩⟩
 ·by_cases e:j=k
  ·subst e
   have e1:upd f j (some o) j=some o:=by unfold upd;rw[if_pos rfl]
   have e2:upd us j u j=u:=by unfold upd;rw[if_pos rfl]
   rw[e1] at hj
   cases hj
   rw[e2]
   exact⟨hk,has_put_same hti.isMap (ikeyLit _) _,fun zd=>atKey_put_same hti.isMap (ikeyLit _) _ _,hu.keep (opE_ok li) (Lx.refl _ _) fun k2 hk2 hl2=>hkeep k2 hk2 (by rcases hl2 with hl2|hl2<;>exact hl2),hl⟩
  ·have e1:upd f k (some o) j=f j:=by unfold upd;rw[if_neg e]
   have e2:upd us k u j=us j:=by unfold upd;rw[if_neg e]
   rw[e1] at hj
   rw[e2]
   obtain⟨g1,g2,g3,g4,g5⟩:=h3 j o' hj
   have hne:(Lit.int .i64 (j:Int))≠ .int .i64 (k:Int):=fun e'=>e (by injection e' with _ e';omega)
   exact⟨g1,by rw[has_put_other hne];exact g2,fun zd=>by rw[atKey_put_other hne];exact g3 zd,g4.keep (opE_ok li) (Lx.refl _ _) fun k2 hk2 hl2=>hkeep k2 hk2 (by rcases hl2 with hl2|hl2<;>exact hl2),g5⟩
 ·by_cases e:j=k
  ·subst e
   have e1:upd f j (some o) j=some o:=by unfold upd;rw[if_pos rfl]
   rw[e1] at hj;cases hj
  ·have e1:upd f k (some o) j=f j:=by unfold upd;rw[if_neg e]
   rw[e1] at hj
   have hne:(Lit.int .i64 (j:Int))≠ .int .i64 (k:Int):=fun e'=>e (by injection e' with _ e';omega)
   rw[has_put_other hne];exact h4 j hj
theorem of_zero (w:World):(zeroValue 105).run Tryz.prog w= .ok (.agg #[.int .i64 0,.int .i64 0,.int .i64 0,.slice none 0 0]) w:=by kernel_rfl
theorem OfM.look {li:Nat}{c:Lb}{W:World}{m n:Nat}{f:Nat→Option (Of Op)}(h:OfM li c W m n f)(k:Nat)(hk:k≤1000000):
 (f k=none∧(Instr.lookup 92 (.map (some m)) (.int .i64 (k:Int)) true).run Tryz.prog W= .ok (.tuple #[.agg #[.int .i64 0,.int .i64 0,.int .i64 0,.slice none 0 0],.bool false]) W)∨
  ∃o u,f k=some o∧(Instr.lookup 92 (.map (some m)) (.int .i64 (k:Int)) true).run Tryz.prog W= .ok (.tuple #[ofV o u,.bool true]) W∧SlR (opE li) c li W u o.ops∧o.ops.length≤1048576:=by
 obtain⟨D,us,h1,h2,h3,h4⟩:=h.ex
 obtain⟨v,ps,hrun,hv⟩:=h1.look_ok ikey Tryz.underlying92 (of_zero W) (zd:= .held (.agg #[.int .i64 0,.int .i64 0,.int .i64 0,.slice none 0 0])) (zp:= []) rfl (key:= .int .i64 (k:Int)) (ikeyOf k hk)
 unfold heldR at hv
 cases hf:f k with
 |none=>
  have hno:=h4 k hf
  rw[atKey_of_not_has hno] at hv
  simp at hv
  refine .inl ⟨rfl,?_⟩
  rw[hrun,hno,hv.1]
 |some o=>
  obtain⟨g1,g2,g3,g4,g5⟩:=h3 k o hf
  rw[g3] at hv
  simp at hv
  refine .inr ⟨o,us k,rfl,?_,g4,g5⟩
  rw[hrun,g2,hv.1]
theorem OfM.len {li:Nat}{c:Lb}{W:World}{m n:Nat}{f:Nat→Option (Of Op)}(h:OfM li c W m n f)(ty:TypeId):(Builtin.len_ #[92] ty #[.map (some m)]).run Tryz.prog W= .ok (.int .i64 (cntO f n:Int)) W:=by
 obtain⟨D,us,h1,h2,h3,h4⟩:=h.ex
 rw[h1.len Tryz.underlying92 ty,h2]
theorem exec_upd {P:Program}{o:Oper}{a:Act}(t:TypeId)(m x v:Operand)(ho:o.op= .mapUpdate t m x v){M X V:Value}{w w':World}(hm:a.eval m=M)(hx:a.eval x=X)(hv:a.eval v=V)
 (hr:(Instr.mapUpdate t M X V).run P w= .ok () w'):(execOp a.eval o).run P w= .ok .skip w':=by
 simp only[execOp,ho,hm,hx,hv,Sem.run_bind,hr,Result.andThen_ok,Sem.run_pure]
theorem wpList_execS {P:Program}{ops:Array Oper}{rest:List Oper}{o:Oper}{a:Act}{w w':World}{Q:Exit→Act→World→Prop}(hw:Region.wanted o (yielded ops a.tmps)=true)
 (hr:(execOp a.eval o).run P w= .ok .skip w') (h:wpList P ops Q rest (a.put o.dst undef) w'):wpList P ops Q (o::rest) a w:=
 wpList_step fun K hK=>by
  rw[if_pos hw]
  unfold Oper.wp
  simp only[hr]
  exact hK _ _ h
theorem quiet_drew {P:Program}{f:FuncId}{args:Array Value}{w:World}{n:Nat}{v:Value}(h:Calls P f args (w.drewN n) fun e w'=>e= .returned v∧ ∃k,w'=(w.drewN n).drewN k):Calls P f args (w.drewN n) fun e w''=>e= .returned v∧ ∃m,w''=w.drewN m:=
 h.mono fun _ _ ⟨he,k,hk⟩=>⟨he,n+k,by rw[hk];simp[World.drewN,Nat.add_assoc]⟩
structure RQ (i:Nat)(c:Lb)(W:World)(r:Rp Op)(lv hv sv uv:Value):Prop where
 lg:Row (opE 1) c (11+10*i) W lv r.log
 hv:Row ntE c (12+10*i) W hv r.hv
 sv:Row (svE 2) c (14+10*i) W sv r.saves
 ou:Row (sdE 3) c (15+10*i) W uv r.out
theorem RP.rq {i:Nat}{c:Lb}{W:World}{r:Rp Op}{lv hv ov sv uv:Value}(h:RP i c W r lv hv ov sv uv):RQ i c W r lv hv sv uv:=⟨h.lg,h.hv,h.sv,h.ou⟩
theorem RQ.rp {i:Nat}{c:Lb}{W:World}{r:Rp Op}{lv hv ov sv uv:Value}(h:RQ i c W r lv hv sv uv)(ho:OfR i c W ov r):RP i c W r lv hv ov sv uv:=⟨h.lg,h.hv,ho,h.sv,h.ou⟩
theorem RQ.keep {i:Nat}{c c':Lb}{W W':World}{r:Rp Op}{lv hv sv uv:Value}(h:RQ i c W r lv hv sv uv)(hc:Lx W c c')(hb: ∀k,k<W.heap.size→c k≠10+10*i→c k≠13+10*i→W'.heap[k]?=W.heap[k]?):RQ i c' W' r lv hv sv uv:=by
 have h1:RP i c W {r with st:=0,offs:=fun _=>none} lv hv (.map none) sv uv:=⟨h.lg,h.hv,.inl ⟨rfl,Z93,fun _=>rfl⟩,h.sv,h.ou⟩
 refine⟨h1.lgK hc fun k hk hl=>hb k hk Z11 Z11,h1.hvK hc fun k hk hl=>hb k hk Z11 Z11,h1.svK hc fun k hk hl=>hb k hk Z11 Z11,h1.ouK hc fun k hk hl=>hb k hk Z11 Z11⟩
theorem mine_any {i:Nat}{c:Lb}{r:Rp Op}{lv hv xv sv uv:Value}(p:Nat)(w:World)(hp:c p=10+10*i)(hb:Blk w p 94 (rpC r lv hv xv sv uv))(hq:RQ i c w r lv hv sv uv)(hn:1≤r.n∧r.n≤7∧r.id<r.n)(hl:r.log.length≤1000000):
 Calls Tryz.prog 77 #[.pointer (some ⟨p,0,none⟩)] w fun e w'=>e= .returned (.tuple #[])∧ ∃c',Lx w c c'∧Fr (fun l=>l=10+10*i) c w w'∧RV i c' w' p (mine r):=by
 obtain⟨la,lc,el⟩:=hq.lg.slice
 subst el
 have hpl:=hb.lt
 have HH:=Lib.hid (And.intro hp (And.intro hb (And.intro hq (And.intro hn hl))))
 have y13:=hb.cell 13 rfl
 have f13:=hb.frozen 13
 have hb1:Blk ((w.setCell ⟨p,13,none⟩ (.map (some w.heap.size))).alloc (.map #[] 0)) p 94 (rpC r (.slice la r.log.length lc) hv (.map (some w.heap.size)) sv uv):=(hb.set 13 _).alloc _
 have HB1:=Lib.hid hb1
 have hcs:=hb1
 unfold rpC at hcs
 have y0:=hcs.cell 0 rfl
 have y1:=hcs.cell 1 rfl
 have y2:=hcs.cell 2 rfl
 have y3:=hcs.cell 3 rfl
 have y4:=hcs.cell 4 rfl
 have y5:=hcs.cell 5 rfl
 have y6:=hcs.cell 6 rfl
 have y7:=hcs.cell 7 rfl
 have y8:=hcs.cell 8 rfl
 have y9:=hcs.cell 9 rfl
 clear hp hb hq hn hl hb1 hcs
 have hmm:= @run_makeMap Tryz.prog
 go_enter Tryz.func77,Tryz.ntmps77
 go_upto_region 2 with fail
 clear y0 y1 y2 y3 y4 y5 y6 y7 y8 y9 y13 f13 hmm
 obtain⟨w1,hw1⟩: ∃w1,w1=(w.setCell ⟨p,13,none⟩ (.map (some w.heap.size))).alloc (.map #[] 0):=⟨_,rfl⟩
 obtain⟨m,hm⟩: ∃m,m=w.heap.size:=⟨_,rfl⟩
 have hss:(w.setCell ⟨p,13,none⟩ (.map (some w.heap.size))).heap.size=w.heap.size:=set_size _ _ _
 have hba:Below w.heap.size (w.setCell ⟨p,13,none⟩ (.map (some w.heap.size))) w1:=by rw[hw1];exact(Below.refl _ _).alloc (by rw[hss];exact Nat.le_refl _) _
 have hkp: ∀k,k<w.heap.size→k≠p→w1.heap[k]?=w.heap[k]?:=fun k hk hne=>by
  rw[hba.block k hk,set_heap_ne _ _ _ _ _ hne]
 have hs1:w1.heap.size=w.heap.size+1:=by rw[hw1,World.size_alloc,hss]
 have hpm:p≠m:=by omega
 have hl1:Lx w c (upd c m (13+10*i)):=fun k hk=>upd_ne' _ _ Z11
 have HC:Hid (upd c m (13+10*i) m=13+10*i∧upd c m (13+10*i) p=10+10*i):=Lib.hid ⟨by unfold upd;rw[if_pos rfl],(hl1 p hpl).trans HH.out.1⟩
 have HM1:Hid (OfM 1 (upd c m (13+10*i)) w1 m r.n (fun _=>none)):=Lib.hid (by
  have h1:=OfM.made 1 (upd c m (13+10*i)) (w.setCell ⟨p,13,none⟩ (.map (some w.heap.size))) r.n
  rw[hss,←hm] at h1
  rw[hw1,hm]
  rw[hm] at h1
  exact h1)
 have HQ1:Hid (RQ i (upd c m (13+10*i)) w1 r (.slice la r.log.length lc) hv sv uv):=Lib.hid (HH.out.2.2.1.keep hl1 fun k hk h1 h2=>hkp k hk fun e=>h1 (e▸HH.out.1))
 have HF1:Hid (Fr (fun l=>l=10+10*i) c w w1):=Lib.hid (by
  rw[hw1]
  exact((Fr.refl _ c w).set _ _ fun _=>HH.out.1).alloc _)
 have HL1:=Lib.hid hl1
 have HMN:Hid (w.heap.size≤m):=Lib.hid Z11
 rw[←hw1,←hm] at HB1
 rw[←hw1,←hm]
 obtain⟨b2,hb2⟩: ∃b2,b2=m+1:=⟨_,rfl⟩
 have hb2':w1.heap.size=b2:=by rw[hb2,hs1,hm]
 have HB2:Hid (Below w1.heap.size w1 (w1.alloc (.cells #[.int .i64 (r.id:Int),.int .i64 (r.n:Int),.int .i64 (r.st:Int),.int .i64 (r.vw:Int),.int .i64 (r.nr:Int),.int .i64 (r.bs:Int),.int .i64 (r.td:Int),.int .i64 (r.cm:Int),.int .i64 (r.sb:Int),.int .i64 (r.ls:Int)] 39))):=Lib.hid ((Below.refl _ _).alloc (Nat.le_refl _) _)
 have HS2:=Lib.hid (Blk.new w1 39 [.int .i64 (r.id:Int),.int .i64 (r.n:Int),.int .i64 (r.st:Int),.int .i64 (r.vw:Int),.int .i64 (r.nr:Int),.int .i64 (r.bs:Int),.int .i64 (r.td:Int),.int .i64 (r.cm:Int),.int .i64 (r.sb:Int),.int .i64 (r.ls:Int)])
 rw[hb2'] at HS2
 rw[←hb2]
 clear hw1 hm hba hkp hs1 hpm hl1 hb2 hb2' hss
 generalize w1.alloc (.cells #[.int .i64 (r.id:Int),.int .i64 (r.n:Int),.int .i64 (r.st:Int),.int .i64 (r.vw:Int),.int .i64 (r.nr:Int),.int .i64 (r.bs:Int),.int .i64 (r.td:Int),.int .i64 (r.cm:Int),.int .i64 (r.sb:Int),.int .i64 (r.ls:Int)] 39)=w2 at*
 have HP2:=Lib.hid (HB1.out.below HB2.out HB1.out.lt)
 have HM2:=Lib.hid (HM1.out.keep (Lx.refl _ _) (HB2.out.block m HM1.out.lt) fun k hk _=>HB2.out.block k hk)
 have HQ2:=Lib.hid (HQ1.out.keep (Lx.refl _ _) fun k hk _ _=>HB2.out.block k hk)
 have HPR:=Lib.hid (fun n=>primary_any p (w2.drewN n) (HP2.out.drewN n) ⟨HH.out.2.2.2.1.1,HH.out.2.2.2.1.2.1⟩)
 have z0:=HS2.out.cell 0 rfl
 go_quiet ((go_at_call 58;exact quiet_drew (HPR.out _)))
 clear z0 HPR
 have HB3:=Lib.hid (below_drewN HB2.out nq)
 have HS3:=Lib.hid (HS2.out.drewN nq)
 have HP3:=Lib.hid (HP2.out.drewN nq)
 have HM3:Hid (OfM 1 (upd c m (13+10*i)) (w2.drewN nq) m r.n (fun _=>none)):=Lib.hid (HM2.out.keep (Lx.refl _ _) rfl fun _ _ _=>rfl)
 have HQ3:Hid (RQ i (upd c m (13+10*i)) (w2.drewN nq) r (.slice la r.log.length lc) hv sv uv):=Lib.hid (HQ2.out.keep (Lx.refl _ _) fun _ _ _ _=>rfl)
 clear HB2 HS2 HP2 HM2 HQ2 HM1 HQ1 HB1
 generalize w2.drewN nq=w3 at*
 have HPW:Hid (∀(w4:World) (c4:Lb) (f:Nat→Option (Of Op)),Lx w3 (upd c m (13+10*i)) c4→w3.heap.size≤w4.heap.size→(∀k,k<w3.heap.size→k≠m→w4.heap[k]?=w3.heap[k]?)→OfM 1 c4 w4 m r.n f→RV i c4 w4 p {r with offs:=f}):=Lib.hid (fun w4 c4 f hx hsz hk ho=>by
  have hmp:p≠m:=fun e=>by have h1:=HC.out.1;have h2:=HC.out.2;rw[e] at h2;omega
  refine⟨(hx p HP3.out.lt).trans HC.out.2,_,_,_,_,_,(hk p HP3.out.lt hmp).trans HP3.out,?_⟩
  have h1:RQ i c4 w4 r (.slice la r.log.length lc) hv sv uv:=HQ3.out.keep hx fun k hk2 _ h13=>hk k hk2 fun e=>h13 (by rw[e];exact HC.out.1)
  exact⟨h1.lg,h1.hv,.inr ⟨m,rfl,(hx m HM3.out.lt).trans HC.out.1,ho⟩,h1.sv,h1.ou⟩)
 have HX3:Hid (Lx w c (upd c m (13+10*i))∧Fr (fun l=>l=10+10*i) c w w3):=Lib.hid ⟨HL1.out,HF1.out.trans HL1.out (Fr.of_below HB3.out)⟩
 by_cases hpr:prm r=r.id
 case neg=>
  have t1:((prm r:Int)==(r.id:Int))=false:=by simp;omega
  have t2:decide ((prm r:Int)=(r.id:Int))=false:=by simp;omega
  have HD:Hid (RV i (upd c m (13+10*i)) w3 p (mine r)):=Lib.hid (by
   have h1:mine r= {r with offs:=fun _=>none}:=by unfold mine;rw[if_neg hpr]
   rw[h1]
   exact HPW.out _ _ _ (Lx.refl _ _) (Nat.le_refl _) (fun _ _ _=>rfl) HM3.out)
  clear hpr
  go_wp2_with fail
  refine bodyPost_end (results_none rfl _ _ _) rfl ?_
  exact⟨rfl,_,HX3.out.1,HX3.out.2,HD.out⟩
 case pos=>
  have t1:((prm r:Int)==(r.id:Int))=true:=by simp;omega
  have HPR:=Lib.hid hpr
  have HOWN:=Lib.hid (fun W (hb:Below w3.heap.size w3 W)=>own_any r.log _ W (HQ3.out.lg.sl.fr (opE_ok 1) (Lx.refl _ _) (Fr.of_below (F:=fun _=>False) hb) (fun _ _ h=>h)) (by have:=HH.out.2.2.2.2;omega))
  clear hpr
  go_upto_region 3 with fail
  refine wp_region_K (fun W=>W.cell? ⟨b2,0,none⟩=some (.int .i64 (r.id:Int))∧W.cell? ⟨b2,4,none⟩=some (.int .i64 (r.nr:Int))∧W.cell? ⟨b2,5,none⟩=some (.int .i64 (r.bs:Int))∧W.cell? ⟨b2,7,none⟩=some (.int .i64 (r.cm:Int))∧W.cell? ⟨p,13,none⟩=some (.map (some m))∧W.cell? ⟨p,10,none⟩=some (.slice la r.log.length lc)) 18 Z27 ?_ (fun hHeld1=> ?_)
  ·exact⟨HS3.out.cell 0 rfl,HS3.out.cell 4 rfl,HS3.out.cell 5 rfl,HS3.out.cell 7 rfl,HP3.out.cell 13 rfl,HP3.out.cell 10 rfl⟩
  refine tkK 0 ?_ (y:=Z1)
  try simp only[ap]
  refine tkK 1 ?_ (y:=Z1)
  try simp only[ap]
  refine tkK 2 ?_ (y:=Z1)
  try simp only[ap]
  refine tkK 3 ?_ (y:=Z1)
  try simp only[ap]
  refine tkK 4 ?_ (y:=Z1)
  try simp only[ap]
  refine tkK 5 ?_ (y:=Z1)
  try simp only[ap]
  refine tkK 6 ?_ (y:=Z1)
  try simp only[ap]
  refine tkK 7 ?_ (y:=Z1)
  try simp only[ap]
  refine tkK 8 ?_ (y:=Z1)
  try simp only[ap]
  refine tkK 9 ?_ (y:=Z1)
  try simp only[ap]
  refine tkK 10 ?_ (y:=Z1)
  try simp only[ap]
  refine tkK 11 ?_ (y:=Z1)
  try simp only[ap]
  refine tkK 12 ?_ (y:=Z1)
  try simp only[ap]
  refine tkK 13 ?_ (y:=Z1)
  try simp only[ap]
  refine tkK 14 ?_ (y:=Z1)
  try simp only[ap]
  refine tkK 15 ?_ (y:=Z1)
  try simp only[ap]
  refine wpAnyK_ready (rs:= [16]) Z27 Z93 ?_
  refine AllReadyK.cons (o:= ?oi17) ?hi17 (fun K hK=> ?hs17) AllReadyK.nil
  case hi17=>exact Z20
  go_simp
  refine(HOWN.out _ (Below.refl _ _).drew).mono ?_
  rintro e w4 ⟨v4,rfl,hnew,hb4⟩
  have HB4:=Lib.hid ((Below.refl w3.heap.size w3).drew.trans hb4)
  have HNW:=Lib.hid hnew
  have HS4:=Lib.hid (HS3.out.below HB4.out HS3.out.lt)
  have HP4:=Lib.hid (HP3.out.below HB4.out HP3.out.lt)
  obtain⟨va4,vc4,ev4⟩:=hnew.slice
  subst ev4
  clear hnew hb4
  go_wp2_with fail
  refine hK.out _ _ ?_ (fun hHeld2=> ?_)
  ·exact⟨HS4.out.cell 0 rfl,HS4.out.cell 4 rfl,HS4.out.cell 5 rfl,HS4.out.cell 7 rfl,HP4.out.cell 13 rfl,HP4.out.cell 10 rfl⟩
  clear hK
  try simp only[ap]
  refine tkK 17 ?_ (y:=Z1)
  try simp only[ap]
  refine wpAnyK_lasts [] Z27 Z31 Z31 ?_
  simp only[List.filterMap_cons,List.filterMap_nil,List.getElem?_toArray,List.getElem?_cons_succ,List.getElem?_cons_zero]
  have hrw:=HNW.out.row (upd c m (13+10*i)) 1 1
  have hM4:=HM3.out.keep hrw.1 (HB4.out.block m HM3.out.lt) fun k hk _=>HB4.out.block k hk
  have hcm:Lb.new (upd c m (13+10*i)) w3.drew.heap.size (.slice va4 r.log.length vc4) 1 1 m=13+10*i:=(hrw.1 m HM3.out.lt).trans HC.out.1
  obtain⟨w5,hupd,hg5,hM5⟩:=hM4.put (by rw[hcm];omega) (k:=r.id) HH.out.2.2.2.1.2.2 Z148 ⟨r.nr,r.bs,r.cm,r.log⟩ (.slice va4 r.log.length vc4) hrw.2.sl (by have:=HH.out.2.2.2.2;show r.log.length≤_;omega)
  unfold ofV at hupd
  simp only at hupd
  have HUPD:=Lib.hid hupd
  have HD:Hid (∃c',Lx w c c'∧Fr (fun l=>l=10+10*i) c w w5∧RV i c' w5 p (mine r)):=Lib.hid (by
   have h1:mine r= {r with offs:=upd (fun _=>none) r.id (some ⟨r.nr,r.bs,r.cm,r.log⟩)}:=by unfold mine;rw[if_pos HPR.out]
   rw[h1]
   have h2: ∀k,k<w3.heap.size→k≠m→w5.heap[k]?=w3.heap[k]?:=fun k hk hne=>(hg5.block k (Nat.lt_of_lt_of_le hk HB4.out.size) fun e=>hne (by cases e;rfl)).trans (HB4.out.block k hk)
   refine⟨_,HX3.out.1.trans hrw.1 HX3.out.2.size,?_,HPW.out _ _ _ hrw.1 (Nat.le_trans HB4.out.size hg5.size) h2 hM5⟩
   have h3:Fr (fun l=>l=10+10*i) c w w3:=HX3.out.2
   have h4:=h3.trans HX3.out.1 (Fr.of_below (F:=fun l=>l=10+10*i) (c:=upd c m (13+10*i)) HB4.out)
   refine h4.grown hg5 fun k hk hkl=> ?_
   cases hk
   have:=HMN.out
   omega)
  clear hupd hg5 hM5 hM4 hcm hrw hHeld1 hHeld2
  refine wpList_execS rfl (exec_upd 92 (.tmp 19) (.tmp 21) (.tmp 33) rfl rfl rfl rfl HUPD.out) ?_
  exact Z36
open Go.RowKit Go.Maps
def Mt (F:Nat→Prop)(i:Nat)(c:Lb)(w w':World)(p:Nat)(r':Rp Op):Prop:= ∃c',Lx w c c'∧Fr F c w w'∧RV i c' w' p r'
theorem Mt.trans {F:Nat→Prop}{i:Nat}{c c1:Lb}{w w1 w2:World}{p:Nat}{r2:Rp Op}(hx:Lx w c c1)(hf:Fr F c w w1)(h:Mt F i c1 w1 w2 p r2):Mt F i c w w2 p r2:=by
 obtain⟨c2,h1,h2,h3⟩:=h
 exact⟨c2,hx.trans h1 hf.size,hf.trans hx h2,h3⟩
theorem Mt.mono {F G:Nat→Prop}{i:Nat}{c:Lb}{w w':World}{p:Nat}{r':Rp Op}(h:Mt F i c w w' p r')(hs: ∀l,F l→G l):Mt G i c w w' p r':=by
 obtain⟨c2,h1,h2,h3⟩:=h
 exact⟨c2,h1,h2.mono hs,h3⟩
theorem Fi_0 (i:Nat):Fi i (10+10*i):=by unfold Fi;omega
structure Ps (p:Nat)(w W:World):Prop where
 os:W.os=w.os
 tape:W.tape=w.tape
 output:W.output=w.output
 size:W.heap.size=w.heap.size
 heap: ∀k,k≠p→W.heap[k]?=w.heap[k]?
theorem Ps.refl (p:Nat)(w:World):Ps p w w:=⟨rfl,rfl,rfl,rfl,fun _ _=>rfl⟩
theorem Ps.set {p:Nat}{w W:World}(h:Ps p w W)(j:Nat)(v:Value):Ps p w (W.setCell ⟨p,j,none⟩ v):=
 ⟨h.os,h.tape,h.output,(set_size _ _ _).trans h.size,fun k hk=>(set_heap_ne _ _ _ _ _ hk).trans (h.heap k hk)⟩
theorem Ps.drew {p:Nat}{w W:World}(h:Ps p w W):Ps p w W.drew:=⟨h.os,h.tape,h.output,h.size,h.heap⟩
theorem Ps.fr {p:Nat}{w W:World}(h:Ps p w W){F:Nat→Prop}{c:Lb}(hp:F (c p)):Fr F c w W:=
 ⟨h.os,h.tape,h.output,by rw[h.size];exact Nat.le_refl _,fun k _ hn=>h.heap k fun e=>hn (e▸hp)⟩
theorem RP.ps {i:Nat}{c:Lb}{w W:World}{p:Nat}{r:Rp Op}{lv hv ov sv uv:Value}(h:RP i c w r lv hv ov sv uv)(hp:c p=10+10*i)(hs:Ps p w W):RP i c W r lv hv ov sv uv:=
 h.keep (Lx.refl _ _) fun k _ hl=>hs.heap k fun e=>by rw[e,hp] at hl;omega
theorem RQ.ps {i:Nat}{c:Lb}{w W:World}{p:Nat}{r:Rp Op}{lv hv sv uv:Value}(h:RQ i c w r lv hv sv uv)(hp:c p=10+10*i)(hs:Ps p w W):RQ i c W r lv hv sv uv:=
 h.keep (Lx.refl _ _) fun k _ h1 _=>hs.heap k fun e=>h1 (e▸hp)
theorem turn_any {i:Nat}{c:Lb}{r:Rp Op}(v:Nat)(p:Nat)(w:World)(h:RV i c w p r)(hl:LI r):
 Calls Tryz.prog 53 #[.pointer (some ⟨p,0,none⟩),.int .i64 (v:Int)] w fun e w'=>e= .returned (.tuple #[])∧Mt (Fi i) i c w w' p (turn r v):=by
 obtain⟨hlp,lv,hv,xv,sv,uv,hbp,hrp⟩:=h
 have HH:=Lib.hid (And.intro hlp (And.intro hbp (And.intro hrp hl)))
 have y2:=hbp.cell 2 rfl
 have y3:=hbp.cell 3 rfl
 have y11:=hbp.cell 11 rfl
 have f2:=hbp.frozen 2
 have f3:=hbp.frozen 3
 have f11:=hbp.frozen 11
 clear hlp hbp hrp hl
 go_enter Tryz.func53,Tryz.ntmps53
 go_wp2_with fail
 have hps:Ps p w (((w.setCell ⟨p,3,none⟩ (.int .i64 (v:Int))).setCell ⟨p,2,none⟩ (.int .i64 1)).setCell ⟨p,11,none⟩ (.int .i64 0)):=(((Ps.refl p w).set _ _).set _ _).set _ _
 have hb1:Blk (((w.setCell ⟨p,3,none⟩ (.int .i64 (v:Int))).setCell ⟨p,2,none⟩ (.int .i64 1)).setCell ⟨p,11,none⟩ (.int .i64 0)) p 94 (rpC {r with vw:=v,st:=1,idle:=0} lv hv xv sv uv):=((HH.out.2.1.set 3 _).set 2 _).set 11 _
 have hq1:RQ i c (((w.setCell ⟨p,3,none⟩ (.int .i64 (v:Int))).setCell ⟨p,2,none⟩ (.int .i64 1)).setCell ⟨p,11,none⟩ (.int .i64 0)) {r with vw:=v,st:=1,idle:=0} lv hv sv uv:=by
  have h1:=HH.out.2.2.1.rq.ps HH.out.1 hps
  exact⟨h1.lg,h1.hv,h1.sv,h1.ou⟩
 have hf1:Fr (Fi i) c w (((w.setCell ⟨p,3,none⟩ (.int .i64 (v:Int))).setCell ⟨p,2,none⟩ (.int .i64 1)).setCell ⟨p,11,none⟩ (.int .i64 0)):=hps.fr (by rw[HH.out.1];exact Fi_0 i)
 have HM:=Lib.hid (mine_any p _ HH.out.1 hb1 hq1 ⟨HH.out.2.2.2.n.1,HH.out.2.2.2.n.2,HH.out.2.2.2.id⟩ HH.out.2.2.2.lo.1)
 have HF1:=Lib.hid hf1
 clear hps hb1 hq1 hf1 y2 y3 y11 f2 f3 f11
 generalize ((w.setCell ⟨p,3,none⟩ (.int .i64 (v:Int))).setCell ⟨p,2,none⟩ (.int .i64 1)).setCell ⟨p,11,none⟩ (.int .i64 0)=w1 at*
 refine HM.out.mono ?_
 rintro e w2 ⟨rfl,c2,hx2,hf2,hv2⟩
 obtain⟨hlp2,lv2,hv2',xv2,sv2,uv2,hbp2,hrp2⟩:=hv2
 have HX2:Hid (Lx w c c2∧Fr (Fi i) c w w2):=Lib.hid (by
  have h1:Lx w c c2:=fun k hk=>hx2 k (Nat.lt_of_lt_of_le hk HF1.out.size)
  exact⟨h1,HF1.out.trans (Lx.refl _ _) (hf2.mono fun l hl=>by rw[hl];exact Fi_0 i)⟩)
 have hsl:(mine {r with vw:=v,st:=1,idle:=0}).saves=r.saves:=rfl
 have hba:Below w2.heap.size w2 (w2.alloc (.cells #[.bool false,.int .i64 (v:Int),.int .i64 0,.slice none 0 0,.int .i64 0] 51)):=(Below.refl _ _).alloc (Nat.le_refl _) _
 have happ:=RV.app_sv (W:=w2.alloc (.cells #[.bool false,.int .i64 (v:Int),.int .i64 0,.slice none 0 0,.int .i64 0] 51)) hlp2 (hbp2.alloc _) (hrp2.below (Lx.refl _ _) hba) (xs:= .slice (some ⟨w2.heap.size,0,none⟩) 1 1) (m:= [⟨false,v,0,[],0⟩]) ⟨[.slice none 0 0],Inn.one (E:=svE 2) (show SvI 2 _ _ _ (⟨false,v,0,[],0⟩:Sv Op) from⟨SlR.nil _ _ _ _,Nat.zero_le _⟩),by rw[flat_single];exact rd_new w2 5 1 _ 51 rfl⟩ (by rw[hsl];have:=HH.out.2.2.2.sv;simp only[List.length_cons,List.length_nil];omega)
 obtain⟨v',w5,hrun,⟨a5,c5,e5⟩,g3,g4,c',hx5,hf5,hv5,-⟩:=happ
 subst e5
 have HRUN:=Lib.hid hrun
 have y14:=hbp2.cell 14 rfl
 have HD:Hid (Mt (Fi i) i c w (w5.setCell ⟨p,14,none⟩ (.slice a5 ((mine {r with vw:=v,st:=1,idle:=0}).saves.length+ [(⟨false,v,0,[],0⟩:Sv Op)].length) c5)) p (turn r v)):=Lib.hid (by
  refine Mt.trans HX2.out.1 HX2.out.2 ⟨c',?_,?_,hv5⟩
  ·exact fun k hk=>hx5 k (Nat.lt_of_lt_of_le hk hba.size)
  ·exact(Fr.of_below hba).trans (Lx.refl _ _) (hf5.mono fun l hl=>by unfold Fi;omega))
 obtain⟨sa,sc,es⟩:=hrp2.sv.slice
 subst es
 clear hrun hba hx5 hf5 hv5 hbp2 hrp2 hlp2 hx2 hf2 HM hsl
 go_wp2_with (at_builtin;go_loud (refine wpList_execA rfl (execA (.tmp 22) (.tmp 25) 42 rfl rfl rfl HRUN.out) ?_))
 go_wp2_with fail
 refine bodyPost_end (results_none rfl _ _ _) rfl ?_
 exact⟨rfl,HD.out⟩
open Go.RowKit Go.Maps
theorem RV.drewN {i:Nat}{c:Lb}{W:World}{p:Nat}{r:Rp Op}(h:RV i c W p r)(n:Nat):RV i c (W.drewN n) p r:=h.keep (Lx.refl _ _) fun _ _ _=>rfl
theorem RV.drew {i:Nat}{c:Lb}{W:World}{p:Nat}{r:Rp Op}(h:RV i c W p r):RV i c W.drew p r:=h.keep (Lx.refl _ _) fun _ _ _=>rfl
theorem RV.lx {i:Nat}{c c':Lb}{W:World}{p:Nat}{r:Rp Op}(h:RV i c W p r)(hc:Lx W c c'):RV i c' W p r:=h.keep hc fun _ _ _=>rfl
theorem SlR.below {α:Type}{E:Ek α}(hE:E.Ok){c:Lb}{lo:Nat}{W W':World}{v:Value}{l:List α}(h:SlR E c lo W v l)(hb:Below W.heap.size W W'):SlR E c lo W' v l:=h.keep hE (Lx.refl _ _) fun k hk _=>hb.block k hk
theorem SlR.lx {α:Type}{E:Ek α}(hE:E.Ok){c c':Lb}{lo:Nat}{W:World}{v:Value}{l:List α}(h:SlR E c lo W v l)(hc:Lx W c c'):SlR E c' lo W v l:=h.keep hE hc fun _ _ _=>rfl
theorem to_one (c:Lb)(W:World)(k:Nat):Lx W c (upd c W.heap.size 1)∧SlR ntE (upd c W.heap.size 1) 1 (W.alloc (.cells #[.int .i64 (k:Int)] 3)) (.slice (some ⟨W.heap.size,0,none⟩) 1 1) [k]:=
 ⟨fun j hj=>upd_ne' _ _ Z11,⟨⟨[undef],Inn.one (E:=ntE) trivial,by rw[flat_single];exact rd_new W 1 1 [.int .i64 (k:Int)] 3 rfl⟩,fun _ g hg=>by cases hg;unfold upd;rw[if_pos rfl]⟩⟩
theorem Mt.undrew {F:Nat→Prop}{i:Nat}{c:Lb}{w w':World}{p:Nat}{r':Rp Op}(h:Mt F i c w.drew w' p r'):Mt F i c w w' p r':=by
 obtain⟨c',h1,h2,h3⟩:=h
 exact⟨c',h1,⟨h2.os,h2.tape,h2.output,h2.size,h2.block⟩,h3⟩
theorem Gi_Fi {i l:Nat}(h:Gi i l):Fi i l:=by unfold Gi at h;unfold Fi;omega
theorem Gi_1 (i:Nat): ¬Gi i 1:=by unfold Gi;omega
theorem Gi_11 (i:Nat): ¬Gi i (11+10*i):=by unfold Gi;omega
theorem send_one {i lo:Nat}{c:Lb}{r:Rp Op}(m:Ms Op)(k:Nat)(ov:Value)(p:Nat)(W:World)(h:RV i c W p r)(hm:SlR (opE 1) c lo W ov m.ops)(hlo: ¬Gi i lo)(hml:m.ops.length≤1048576)(hq:r.out.length≤100000):
 Calls Tryz.prog 44 #[.pointer (some ⟨p,0,none⟩),msV m.kd 0 0 m.nr m.ao ov m.cm m.sb m.ls,.slice (some ⟨W.heap.size,0,none⟩) 1 1] (W.alloc (.cells #[.int .i64 (k:Int)] 3)) fun e w'=>e= .returned (.tuple #[])∧Mt (Gi i) i c W w' p (snd1 m r k):=by
 have ht:=to_one c W k
 have hb:Below W.heap.size W (W.alloc (.cells #[.int .i64 (k:Int)] 3)):=(Below.refl _ _).alloc (Nat.le_refl _) _
 refine(send_any m 0 0 [k] ov _ p _ (h.below ht.1 hb) ((hm.lx (opE_ok 1) ht.1).below (opE_ok 1) hb) hlo hml ht.2 (Gi_1 i) Z93 hq).mono ?_
 rintro e w' ⟨rfl,c',h1,h2,h3⟩
 exact⟨rfl,c',fun j hj=>(h1 j (Nat.lt_of_lt_of_le hj hb.size)).trans (ht.1 j hj),(Fr.of_below hb).trans ht.1 h2,h3⟩
theorem report_any {i:Nat}{c:Lb}{r:Rp Op}(k:Nat)(p:Nat)(w:World)(h:RV i c w p r)(hq:r.out.length≤100000):
 Calls Tryz.prog 88 #[.pointer (some ⟨p,0,none⟩),.int .i64 (k:Int)] w fun e w'=>e= .returned (.tuple #[])∧Mt (Gi i) i c w w' p (report r k):=by
 have HS:=Lib.hid (send_one (mHave r) k (.slice none 0 0) p w h (SlR.nil _ _ 1 _) (Gi_1 i) (Nat.zero_le _) hq)
 obtain⟨hlp,lv,hv,xv,sv,uv,hbp,hrp⟩:=h
 have y9:=hbp.cell 9 rfl
 clear hlp hbp hrp hq
 unfold mHave msV at HS
 simp only at HS
 go_enter Tryz.func88,Tryz.ntmps88
 go_wp2_with fail
 refine HS.out.mono ?_
 rintro e w1 ⟨rfl,hm⟩
 have HM:=Lib.hid hm
 clear hm
 go_wp2_with fail
 refine bodyPost_end (results_none rfl _ _ _) rfl ?_
 exact⟨rfl,HM.out⟩
theorem start_any {i lt:Nat}{c:Lb}{r:Rp Op}(ks:List Nat)(tv:Value)(p:Nat)(w:World)(h:RV i c w p r)(ht:SlR ntE c lt w tv ks)(hlt: ¬Gi i lt)(hks:ks.length≤1000)(hl:r.log.length≤1000000)(hq:r.out.length≤100000):
 Calls Tryz.prog 56 #[.pointer (some ⟨p,0,none⟩),tv] w fun e w'=>e= .returned (.tuple #[])∧Mt (Gi i) i c w w' p (start r ks):=by
 obtain⟨lv,hv,xv,sv,uv,hbp,hrp⟩:=h.ex
 obtain⟨la,lc,el⟩:=hrp.lg.slice
 subst el
 have HS:=Lib.hid (send_any (i:=i) (c:=c) (r:=r) (lo:=11+10*i) (mBegin r) 0 0 ks (.slice la r.log.length lc) tv p w.drew h.drew (hrp.lg.sl.keep (opE_ok 1) (Lx.refl _ _) fun _ _ _=>rfl) (Gi_11 i) (by show r.log.length≤_;omega) (ht.keep ntE_ok (Lx.refl _ _) fun _ _ _=>rfl) hlt hks hq)
 obtain⟨ta,tc,et⟩:=ht.slice
 subst et
 have HP:=Lib.hid hbp
 clear hbp hrp hq h ht hlt hks hl
 unfold mBegin msV at HS
 simp only at HS
 go_enter Tryz.func56,Tryz.ntmps56
 go_upto_region 0 with fail
 refine wp_region_K (fun W=>W=w.drew∧W.cell? ⟨p,5,none⟩=some (.int .i64 (r.bs:Int))∧W.cell? ⟨p,10,none⟩=some (.slice la r.log.length lc)∧W.cell? ⟨p,7,none⟩=some (.int .i64 (r.cm:Int))) 17 Z27 ?_ (fun hHeld1=> ?_)
 ·exact⟨rfl,HP.out.cell 5 rfl,HP.out.cell 10 rfl,HP.out.cell 7 rfl⟩
 refine tkK 0 ?_ (y:=Z1)
 try simp only[ap]
 refine tkK 1 ?_ (y:=Z1)
 try simp only[ap]
 refine tkK 2 ?_ (y:=Z1)
 try simp only[ap]
 refine tkK 3 ?_ (y:=Z1)
 try simp only[ap]
 refine tkK 4 ?_ (y:=Z1)
 try simp only[ap]
 refine tkK 5 ?_ (y:=Z1)
 try simp only[ap]
 refine tkK 6 ?_ (y:=Z1)
 try simp only[ap]
 refine tkK 7 ?_ (y:=Z1)
 try simp only[ap]
 refine tkK 8 ?_ (y:=Z1)
 try simp only[ap]
 refine tkK 9 ?_ (y:=Z1)
 try simp only[ap]
 refine tkK 10 ?_ (y:=Z1)
 try simp only[ap]
 refine tkK 11 ?_ (y:=Z1)
 try simp only[ap]
 refine tkK 12 ?_ (y:=Z1)
 try simp only[ap]
 refine tkK 13 ?_ (y:=Z1)
 try simp only[ap]
 refine tkK 14 ?_ (y:=Z1)
 try simp only[ap]
 refine tkK 15 ?_ (y:=Z1)
 try simp only[ap]
 refine tkK 16 ?_ (y:=Z1)
 try simp only[ap]
 refine wpAnyK_lasts [] Z27 Z31 Z31 ?_
 simp only[List.filterMap_cons,List.filterMap_nil,List.getElem?_toArray,List.getElem?_cons_succ,List.getElem?_cons_zero]
 refine wpList_step fun K hK0=> ?_
 have hK:=Lib.hid hK0
 clear hK0
 rw[if_pos Z31]
 go_simp
 refine HS.out.mono ?_
 rintro e w1 ⟨rfl,hm⟩
 have HM:=Lib.hid hm
 clear hm
 go_wp2_with fail
 refine hK.out _ _ ?_
 clear hK
 try simp only[ap]
 go_wp2_with fail
 refine bodyPost_end (results_none rfl _ _ _) rfl ?_
 exact⟨rfl,Mt.undrew HM.out⟩
open Go.RowKit Go.Maps
def Ri (i:Nat):Nat→Prop:=fun k=>k=10+10*i
theorem Ri_Fi {i l:Nat}(h:Ri i l):Fi i l:=by unfold Ri at h;unfold Fi;omega
def stdV (r:Rp Op):Value:= .agg #[.int .i64 (r.id:Int),.int .i64 (r.n:Int),.int .i64 (r.st:Int),.int .i64 (r.vw:Int),.int .i64 (r.nr:Int),.int .i64 (r.bs:Int),.int .i64 (r.td:Int),.int .i64 (r.cm:Int),.int .i64 (r.sb:Int),.int .i64 (r.ls:Int)]
theorem stand_any {i:Nat}{c:Lb}{r:Rp Op}(p:Nat)(w:World)(h:RV i c w p r):
 Calls Tryz.prog 15 #[.pointer (some ⟨p,0,none⟩)] w fun e w'=>e= .returned (stdV r)∧Below w.heap.size w w':=by
 obtain⟨lv,hv,xv,sv,uv,hbp,hrp⟩:=h.ex
 have hp1:p<w.heap.size:=hbp.lt
 have hba:Below w.heap.size w (w.alloc (.cells #[.int .i64 0,.int .i64 0,.int .i64 0,.int .i64 0,.int .i64 0,.int .i64 0,.int .i64 0,.int .i64 0,.int .i64 0,.int .i64 0] 39)):=(Below.refl _ _).alloc (Nat.le_refl _) _
 have hb2:=hbp.below hba hp1
 have y0:=hb2.cell 0 rfl
 have y1:=hb2.cell 1 rfl
 have y2:=hb2.cell 2 rfl
 have y3:=hb2.cell 3 rfl
 have y4:=hb2.cell 4 rfl
 have y5:=hb2.cell 5 rfl
 have y6:=hb2.cell 6 rfl
 have y7:=hb2.cell 7 rfl
 have y8:=hb2.cell 8 rfl
 have y9:=hb2.cell 9 rfl
 unfold stdV
 clear hbp hrp hb2 h hba
 go_enter Tryz.func15,Tryz.ntmps15
 go_wp2_with fail
 refine bodyPost_ret (results_cell_row rfl _ _ w.heap.size 39 #[.int .i64 (r.id:Int),.int .i64 (r.n:Int),.int .i64 (r.st:Int),.int .i64 (r.vw:Int),.int .i64 (r.nr:Int),.int .i64 (r.bs:Int),.int .i64 (r.td:Int),.int .i64 (r.cm:Int),.int .i64 (r.sb:Int),.int .i64 (r.ls:Int)] (0,0) _ rfl (heap_alloc_new _ _) Tryz.underlying39 rfl Z27) rfl ?_
 exact⟨rfl,(Below.refl _ _).alloc (Nat.le_refl _) _⟩
theorem leads_any {i:Nat}{c:Lb}{r:Rp Op}(p:Nat)(w:World)(h:RV i c w p r)(hn:1≤r.n∧r.n≤7):
 Calls Tryz.prog 14 #[.pointer (some ⟨p,0,none⟩)] w fun e w'=>e= .returned (.bool (leads r))∧ ∃k,w'=w.drewN k:=by
 obtain⟨lv,hv,xv,sv,uv,hbp,hrp⟩:=h.ex
 have y0:=hbp.cell 0 rfl
 have y2:=hbp.cell 2 rfl
 have HPR:=Lib.hid (fun W (hb:Below w.heap.size w W)=>primary_any p W (hbp.below hb hbp.lt) hn)
 unfold leads
 clear hbp hrp h hn
 go_enter Tryz.func14,Tryz.ntmps14
 by_cases hst:r.st=0
 ·have t1:(r.st:Int)=0:=by omega
  by_cases hpr:prm r=r.id
  ·have t2:((prm r:Nat):Int)=(r.id:Int):=by omega
   go_wp2_with fail
   go_quiet ((go_at_call 58;exact quiet_drew (HPR.out _ (below_drewN (Below.refl _ _) _))))
   go_wp2_with fail
   go_ret
   exact⟨by simp[hst,hpr],_,rfl⟩
  ·have t2: ¬((prm r:Nat):Int)=(r.id:Int):=by omega
   go_wp2_with fail
   go_quiet ((go_at_call 58;exact quiet_drew (HPR.out _ (below_drewN (Below.refl _ _) _))))
   go_wp2_with fail
   go_ret
   exact⟨by simp[hst,hpr];exact t2,_,rfl⟩
 ·have t1: ¬(r.st:Int)=0:=by omega
  go_wp2_with fail
  go_quiet (fail)
  go_wp2_with fail
  go_ret
  exact⟨by simp[hst],_,rfl⟩
theorem saves_any {i:Nat}{c:Lb}{r:Rp Op}(p:Nat)(w:World)(h:RV i c w p r):
 Calls Tryz.prog 17 #[.pointer (some ⟨p,0,none⟩)] w fun e w'=> ∃v,e= .returned v∧Row (svE 2) c (14+10*i) w' v r.saves∧Ps p w w'∧RV i c w' p {r with saves:= [] }:=by
 obtain⟨hlp,lv,hv,xv,sv,uv,hbp,hrp⟩:=h
 have y14:=hbp.cell 14 rfl
 have f14:=hbp.frozen 14
 have HD:Hid (Row (svE 2) c (14+10*i) (w.setCell ⟨p,14,none⟩ (.slice none 0 0)) sv r.saves∧Ps p w (w.setCell ⟨p,14,none⟩ (.slice none 0 0))∧RV i c (w.setCell ⟨p,14,none⟩ (.slice none 0 0)) p {r with saves:= [] }):=Lib.hid (by
  have h1:=(Ps.refl p w).set 14 (.slice none 0 0)
  have h2:=hrp.ps hlp h1
  exact⟨h2.sv,h1,hlp,lv,hv,xv,_,uv,hbp.set 14 _,h2.lg,h2.hv,h2.of,Row.nil _ _ _ _,h2.ou⟩)
 obtain⟨la,lc,el⟩:=hrp.sv.slice
 subst el
 clear hbp hrp hlp
 go_enter Tryz.func17,Tryz.ntmps17
 go_wp2_with fail
 go_ret
 exact⟨_,rfl,HD.out⟩
theorem out_any {i:Nat}{c:Lb}{r:Rp Op}(p:Nat)(w:World)(h:RV i c w p r):
 Calls Tryz.prog 18 #[.pointer (some ⟨p,0,none⟩)] w fun e w'=> ∃v,e= .returned v∧Row (sdE 3) c (15+10*i) w' v r.out∧Ps p w w'∧RV i c w' p {r with out:= [] }:=by
 obtain⟨hlp,lv,hv,xv,sv,uv,hbp,hrp⟩:=h
 have y15:=hbp.cell 15 rfl
 have f15:=hbp.frozen 15
 have HD:Hid (Row (sdE 3) c (15+10*i) (w.setCell ⟨p,15,none⟩ (.slice none 0 0)) uv r.out∧Ps p w (w.setCell ⟨p,15,none⟩ (.slice none 0 0))∧RV i c (w.setCell ⟨p,15,none⟩ (.slice none 0 0)) p {r with out:= [] }):=Lib.hid (by
  have h1:=(Ps.refl p w).set 15 (.slice none 0 0)
  have h2:=hrp.ps hlp h1
  exact⟨h2.ou,h1,hlp,lv,hv,xv,sv,_,hbp.set 15 _,h2.lg,h2.hv,h2.of,h2.sv,Row.nil _ _ _ _⟩)
 obtain⟨la,lc,el⟩:=hrp.ou.slice
 subst el
 clear hbp hrp hlp
 go_enter Tryz.func18,Tryz.ntmps18
 go_wp2_with fail
 go_ret
 exact⟨_,rfl,HD.out⟩
end Go.Proofs.YtdmjegelcdghlaaGreat.Vw
