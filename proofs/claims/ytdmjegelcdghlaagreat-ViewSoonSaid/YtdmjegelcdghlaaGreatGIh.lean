/-
  Chapter 22, plain: the group's events keep what holds of it.
-/
import Derived.Test.YtdmjegelcdghlaaGreatGId
set_option maxRecDepth 100000
set_option maxHeartbeats 64000000
set_option linter.unusedVariables false
set_option linter.unusedSimpArgs false
namespace Go.Proofs.YtdmjegelcdghlaaGreat
theorem Z129 {p:Prop}(h:p:=by
 split
 ·rw[start_eq]
 ·rfl):p:=h
theorem Z114 {p:Prop}(h:p:=by
 unfold askE at hc
 split at hc
 ·omega
 ·split at hc
  ·omega
  ·rename_i h1 h2
   exact⟨by simpa using h1,by simpa using h2⟩):p:=h
theorem Z79 {p:Prop}(h:p:=by
 obtain⟨u,h1,h2⟩:=G.od
 have h3:=(G.al.core.safe' (Nat.le_refl u) h1.1 h1).1
 refine⟨u,e.cm h1,?_⟩
 show g.order=(h'.W u).take g.order.length
 rw[e.take h1.1 h3]
 exact h2):p:=h
end Go.Proofs.YtdmjegelcdghlaaGreat
namespace Go.Proofs.YtdmjegelcdghlaaGreat.Vw
variable {O:Type}
theorem begin_td (r:Rp O):(begin_ r).td=r.td:=by
 exact Z101
theorem change_td (r:Rp O)(v:Nat):(change r v).td=r.td:=by
 unfold change offer
 rw[begin_td,snd1_eq,sndL_eq]
 rfl
theorem prep1_td (r:Rp O)(m:Ms O):(prep1 r m).td=r.td:=by
 unfold prep1
 dsimp only
 split<;>rfl
theorem prepare_td (r:Rp O)(m:Ms O):(prepare r m).td=r.td:=by
 unfold prepare report
 split
 ·rw[snd1_eq]
  exact prep1_td r m
 ·rw[snd1_eq]
theorem begunM_td (r:Rp O)(m:Ms O):(begunM r m).td=r.td:=by
 unfold begunM report
 split
 ·rw[snd1_eq]
 ·split
  ·rfl
  ·rw[snd1_eq];rfl
theorem offerM_td (r:Rp O)(m:Ms O):(offerM r m).td=r.td:=by
 unfold offerM
 split
 ·rw[begin_td]
 ·exact Z129
theorem take_td (r:Rp O)(m:Ms O):(take r m).td=r.td:=by
 unfold take
 split
 ·split
  ·rw[snd1_eq]
  ·rfl
 split
 ·rw[prepare_td]
  split<;>rfl
 split
 ·split
  ·rfl
  ·split<;>rfl
 split
 ·split
  ·exact change_td _ _
  ·exact Z129
 split
 ·rw[offerM_td]
  split
  ·exact change_td _ _
  ·rfl
 split
 ·exact begunM_td _ _
 split
 ·split
  ·rfl
  ·exact Z129
 ·rfl
theorem tick_td (r:Rp O):(tick r).td=r.td:=by
 unfold tick
 split
 ·rw[tell_eq]
 ·dsimp only
  split
  ·exact change_td _ _
  ·split
   ·unfold offer
    rw[snd1_eq,sndL_eq]
   ·rfl
theorem ask_td (r:Rp O)(o:O):(ask r o).td=r.td:=by
 unfold ask
 rw[tell_eq]
 rfl
variable {N:Nat} {ok:O→Bool} {h:Gh O} {g:Gp O} {i:Nat}
theorem Al.up {n N N':Nat}{R:Nat→Rp O}{kp:Nat→Kt O}{sv:Nat→List (Sv O)}(H:Al n ok N h R kp sv)(hN:N≤N'):Al n ok N' h R kp sv:=⟨H.core,H.rep,H.ld,fun v=>⟨(H.wok v).1,Nat.le_trans (H.wok v).2 hN⟩⟩
theorem GI.up {N':Nat}(G:GI ok N h g)(hN:N≤N'):GI ok N' h g:=⟨G.al.up hN,G.em,G.wy,G.od⟩
theorem GI.pre (G:GI ok N h g){N':Nat}(hi:i<g.n){r:Rp O}(s:St g.n ok N' h g.r g.kept g.saves i r)(ht:r.td=(g.r i).td): ∃h',Ext g.n h h' (fun k=>(g.r k).vw)∧(g.r i).vw≤r.vw∧Pre ok N' h' {g with r:=upd g.r i r} i:=by
 obtain⟨h',e,v,a⟩:=s
 refine⟨h',e,v,a,fun k hk hne=> ?_,fun k hk=> ?_,fun x hx=> ?_,?_⟩
 ·show(upd g.r i r k).saves= []∧(upd g.r i r k).out= []
  rw[upd_ne _ _ hne]
  exact⟨(G.em k hk).1,(G.em k hk).2.1⟩
 ·have h1:=G.em k hk
  show g.told k=(upd g.r i r k).td∧(upd g.r i r k).td≤g.order.length∧_
  by_cases ek:k=i
  ·subst ek;rw[upd_same,ht];exact h1.2.2
  ·rw[upd_ne _ _ ek];exact h1.2.2
 ·refine(G.wy x hx).ext e fun k hk=> ?_
  show(g.r k).vw≤(upd g.r i r k).vw
  exact Z60
 ·exact Z79
theorem now_vw (g:Gp O)(i:Nat)(r:Rp O)(k:Nat):((g.now i r).r k).vw=(upd g.r i r k).vw:=by
 show(upd (upd g.r i r) i (clr (upd g.r i r i)) k).vw=_
 rw[upd_same,upd_upd]
 by_cases e:k=i
 ·subst e;rw[upd_same,upd_same];rfl
 ·rw[upd_ne _ _ e,upd_ne _ _ e]
theorem GI.step (G:GI ok N h g){N':Nat}(hi:i<g.n){r:Rp O}(s:St g.n ok N' h g.r g.kept g.saves i r)(ht:r.td=(g.r i).td): ∃h',GI ok N' h' (g.now i r)∧Gon g.n h h' g (g.now i r):=by
 obtain⟨h',e,v,p⟩:=G.pre hi s ht
 refine⟨h',p.settle hi,rfl,e,fun k hk=> ?_⟩
 rw[now_vw]
 exact Z60
def evAsk (ok:O→Bool)(g:Gp O)(i:Nat)(o:O):Gp O:=g.now i (if askE ok (g.r i) o=0 then ask (g.r i) o else g.r i)
def evTick (g:Gp O)(i:Nat):Gp O:=g.now i (tick (g.r i))
def wayOut (g:Gp O)(k:Nat):Gp O:= {g with way:=g.way.take k++g.way.drop (k+1)}
def evTake (g:Gp O)(k:Nat)(x:Sd O):Gp O:=(wayOut g k).now x.to (take (g.r x.to) x.m)
def evDbl (g:Gp O)(x:Sd O):Gp O:= {g with way:=g.way++ [x] }
def evKeep (g:Gp O)(i:Nat):Gp O:= {g with kept:=upd g.kept i (keptOf (g.r i)),saves:=upd g.saves i [] }
def evLoad (g:Gp O)(i:Nat)(r:Rp O):Gp O:=settle {g with r:=upd g.r i r,told:=upd g.told i (g.kept i).cm} i
theorem GI.ask (G:GI ok N h g)(hN:N+1≤TM)(hi:i<g.n)(o:O): ∃h',GI ok (N+1) h' (evAsk ok g i o)∧Gon g.n h h' g (evAsk ok g i o):=by
 unfold evAsk
 by_cases hc:askE ok (g.r i) o=0
 ·rw[if_pos hc]
  have h1:ok o=true∧leads (g.r i)=true:=by
   exact Z114
  exact G.step hi (G.al.p_ask hN hi h1.2 h1.1) (ask_td _ _)
 ·rw[if_neg hc]
  exact(G.up (Nat.le_succ N)).step hi (St.refl (G.al.up (Nat.le_succ N)) i) rfl
theorem GI.tick (G:GI ok N h g)(hN:N≤TM)(hi:i<g.n): ∃h',GI ok N h' (evTick g i)∧Gon g.n h h' g (evTick g i):=G.step hi (G.al.p_tick hN hi) (tick_td _)
theorem GI.way (G:GI ok N h g){l:List (Sd O)}(hl: ∀x∈l,x∈g.way):GI ok N h {g with way:=l}:=⟨G.al,G.em,fun x hx=>G.wy x (hl x hx),G.od⟩
theorem Gon.refl (n:Nat)(h:Gh O)(g g':Gp O)(hn:g'.n=g.n)(hr:g'.r=g.r):Gon n h h g g':=⟨hn,Ext.refl _ _ _,fun k _=>by rw[hr];exact Nat.le_refl _⟩
theorem wayOut_mem (g:Gp O)(k:Nat): ∀x∈(wayOut g k).way,x∈g.way:=fun x hx=>by
 rcases List.mem_append.1 hx with h1|h1
 ·exact List.mem_of_mem_take h1
 ·exact List.mem_of_mem_drop h1
theorem GI.drop (G:GI ok N h g)(k:Nat):GI ok N h (wayOut g k):=G.way (wayOut_mem g k)
theorem GI.dbl (G:GI ok N h g){x:Sd O}(hx:x∈g.way):GI ok N h (evDbl g x):=G.way fun y hy=>by
 rcases List.mem_append.1 hy with h1|h1
 ·exact h1
 ·rw[List.mem_singleton] at h1;subst h1;exact hx
theorem GI.take (G:GI ok N h g)(hN:N≤TM){k:Nat}{x:Sd O}(hx:x∈g.way):x.to<g.n∧mayM ok (g.r x.to) x.m=true∧ ∃h',GI ok N h' (evTake g k x)∧Gon g.n h h' g (evTake g k x):=by
 have hm:=G.wy x hx
 refine⟨hm.to,hm.may G.al.wok hN (fun j hj=>(G.al.rep j hj).tm) (fun j hj v=>G.al.core.aw j hj v) (G.al.rep _ hm.to).nn (G.al.rep _ hm.to).id,?_⟩
 obtain⟨h',g1,g2⟩:=(G.drop k).step hm.to (G.al.p_take hN hm.to hm rfl) (take_td _ _)
 exact⟨h',g1,⟨g2.nn,g2.ee,g2.vv⟩⟩
theorem GI.keep (G:GI ok N h g)(hN:N≤TM)(hi:i<g.n):GI ok N h (evKeep g i):=by
 have r:=G.al.rep i hi
 have hls:(g.r i).ls≤(h.W (g.r i).nr).length:=(G.al.core.li i hi).2
 have hW:=(G.al.wok (g.r i).nr).2
 refine⟨⟨G.al.core,G.al.rep,fun j hj=> ?_,G.al.wok⟩,fun j hj=> ?_,G.wy,G.od⟩
 ·show LDR g.n ok h j (g.r j).vw (g.r j).nr (g.r j).ls (g.r j).bs (upd g.kept i (keptOf (g.r i)) j) (upd g.saves i [] j++(g.r j).saves)
  by_cases e:j=i
  ·subst e
   rw[upd_same,upd_same,(G.em j hj).1]
   have hle:(g.r j).nr≤(g.r j).vw:=G.al.core.le j hj
   have hod:=r.od
   have hll:=r.ls
   have hb1:(g.r j).bs≤TM:=by omega
   have hb2:(g.r j).td≤(g.r j).bs+(g.r j).log.length:=by omega
   refine⟨⟨{newR j g.n with vw:=(g.r j).vw,nr:=(g.r j).nr,bs:=(g.r j).bs,cm:=(g.r j).td,td:=(g.r j).td,ls:=(g.r j).bs+(g.r j).log.length,log:=(g.r j).log},_,?_,rfl,?_⟩,Nat.le_refl _⟩
   ·unfold ldK keptOf
    rw[if_pos ⟨hle,r.tm,hb1,r.od.1,hb2,r.sg.all (G.al.wok _).1⟩]
   ·refine⟨rfl,rfl,rfl,rfl,r.ls.symm,rfl,rfl,rfl,r.sg,rfl,⟨r.od.1,hb2,Nat.zero_le _⟩,r.cm.le r.od.2.1,G.al.core.stab0 _,r.bs,rfl,fun _=>rfl,rfl,rfl⟩
  ·rw[upd_ne _ _ e,upd_ne _ _ e];exact G.al.ld j hj
 ·have h1:=G.em j hj
  refine⟨h1.1,h1.2.1,h1.2.2.1,h1.2.2.2.1,?_⟩
  show(upd g.kept i (keptOf (g.r i)) j).cm≤g.order.length
  by_cases e:j=i
  ·subst e;rw[upd_same];exact h1.2.2.2.1
  ·rw[upd_ne _ _ e];exact h1.2.2.2.2
theorem GI.loadsP (G:GI ok N h g)(hi:i<g.n): ∃r,load ok i g.n (g.kept i) (g.saves i)=some r∧r.saves= []∧r.out= []∧ ∃h',Ext g.n h h' (fun k=>(g.r k).vw)∧(g.r i).vw≤r.vw∧Pre ok N h' {g with r:=upd g.r i r,told:=upd g.told i (g.kept i).cm} i:=by
 have r:=G.al.rep i hi
 have hem:=G.em i hi
 obtain⟨⟨q0,q,h1,h2,h3⟩,h4⟩:=G.al.ld i hi
 rw[hem.1,List.append_nil] at h2
 refine⟨ldE q,by unfold load;rw[h1];show(match ldL ok q0 (g.saves i) with|none=>none|some r1=>some (ldE r1))=_;rw[h2],by rw[←h3.saves];unfold ldE;dsimp only;split<;>rfl,by rw[←h3.out];unfold ldE;dsimp only;split<;>rfl,?_⟩
 have hle:(g.r i).nr≤(g.r i).vw:=G.al.core.le i hi
 obtain⟨q1,hq1⟩: ∃q1:Rp O,q1= {q with cm:=max q.cm q.sb,st:=if q.nr<q.vw then 1 else 2}:=⟨_,rfl⟩
 have s1:St g.n ok N h g.r g.kept g.saves i q1:=by
  refine G.al.put hi (Ext.refl _ _ _) (by rw[hq1];show(g.r i).vw≤q.vw;rw[h3.qv];exact Nat.le_refl _) ?_ ?_ ?_ G.al.wok
  ·rw[hq1];exact G.al.core.same h3.qv h3.qnr h3.qls
  ·rw[hq1]
   show RI g.n ok h (upd (fun k=>(g.r k).vw) i q.vw) i _
   rw[show upd (fun k=>(g.r k).vw) i q.vw=fun k=>(g.r k).vw from by rw[h3.qv];exact upd_eta (fun k=>(g.r k).vw) i]
   refine⟨h3.id,h3.qn,⟨?_,?_⟩,?_,?_,h3.le,⟨?_,?_,?_,?_⟩,?_,?_,?_,fun k o ho=> ?_,?_,fun h0=> ?_,fun x hx=> ?_⟩
   ·show(if q.nr<q.vw then 1 else 2)≤2
    split<;>omega
   ·show(if q.nr<q.vw then 1 else 2)=1↔q.nr<q.vw
    split<;>omega
   ·show q.vw≤TM
    rw[h3.qv];exact r.tm
   ·show Sg (h.W q.nr) q.bs q.log
    rw[h3.qnr];exact h3.sg
   ·show q.bs≤q.td
    rw[h3.td,←h3.cm];exact h3.od.1
   ·show q.td≤max q.cm q.sb
    rw[h3.td,←h3.cm];exact Nat.le_max_left _ _
   ·exact Nat.max_le.2 h3.od.2
   ·exact Nat.le_max_right _ _
   ·show Sure g.n h q.nr (max q.cm q.sb)
    rw[h3.qnr]
    exact h3.scm.max (h3.ssb.sure G.al.core.n1)
   ·show Stab g.n h q.nr q.sb
    rw[h3.qnr];exact h3.ssb
   ·show Stab g.n h q.nr q.bs
    rw[h3.qnr];exact h3.sbs
   ·have ho':q.offs k=some o:=ho
    rw[h3.offs k] at ho'
    cases ho'
   ·show q.hv.length=g.n
    rw[h3.hv,List.length_replicate]
   ·exfalso
    have h0':(if q.nr<q.vw then 1 else 2)=0:=h0
    split at h0'<;>omega
   ·have hx':x∈q.out:=hx
    rw[h3.out] at hx'
    cases hx'
  ·rw[hq1]
   show LDR g.n ok h i q.vw q.nr q.ls q.bs (g.kept i) (g.saves i++q.saves)
   rw[h3.saves,List.append_nil,h3.qv,h3.qnr,h3.qls]
   exact⟨⟨q0,q,h1,h2,h3⟩,by rw[h3.bs];exact Nat.le_refl _⟩
 have s2:St g.n ok N h g.r g.kept g.saves i (ldE q):=by
  unfold ldE
  by_cases hlt:q.nr<q.vw
  ·have he:q1= {q with cm:=max q.cm q.sb,st:=1}:=by rw[hq1,if_pos hlt]
   simp only[if_pos hlt]
   refine s1.then hi fun h' R' hR e v a hm=> ?_
   have b:=a.rep i hi
   have hmn:mine { {q with cm:=max q.cm q.sb,st:=2} with st:=1} = {q1 with offs:=if q1.vw % q1.n=q1.id then upd (fun _=>none) q1.id (some ⟨q1.nr,q1.bs,q1.cm,q1.log⟩) else fun _=>none}:=by rw[he];rfl
   rw[hmn,←hR]
   refine a.same hi rfl rfl rfl (Nat.le_refl _) rfl ⟨b.id,b.nn,b.st,b.tm,b.sg,b.ls,b.od,b.cm,b.sb,b.bs,fun k o ho=> ?_,b.hl,b.hv,b.out⟩
   have hnv:(R' i).nr<(R' i).vw:=by rw[hR,he];exact hlt
   have ho':(if(R' i).vw %(R' i).n=(R' i).id then upd (fun _=>none) (R' i).id (some ⟨(R' i).nr,(R' i).bs,(R' i).cm,(R' i).log⟩) else fun _=>none) k=some o:=ho
   split at ho'
   ·rename_i hp
    by_cases ek:k=(R' i).id
    ·subst ek
     rw[upd_same] at ho'
     cases ho'
     rw[b.nn,b.id] at hp
     rw[b.id]
     refine⟨hnv,hp,hi,a.of_own hi (Nat.le_refl _) hnv,Nat.le_trans b.od.1 (Nat.le_trans b.od.2.1 b.od.2.2.1),?_⟩
     show(R' i).cm≤(R' i).bs+(R' i).log.length
     rw[←b.ls];exact b.od.2.2.1
    ·rw[upd_ne _ _ ek] at ho'
     cases ho'
   ·cases ho'
  ·have he:q1= {q with cm:=max q.cm q.sb,st:=2}:=by rw[hq1,if_neg hlt]
   simp only[if_neg hlt]
   rw[←he];exact s1
 have htd:(ldE q).td=(g.kept i).cm:=by
  have:(ldE q).td=q.td:=by
   unfold ldE
   dsimp only
   split<;>rfl
  rw[this,h3.td]
 obtain⟨h',e,v,a⟩:=s2
 have p:Pre ok N h' {g with r:=upd g.r i (ldE q),told:=upd g.told i (g.kept i).cm} i:=by
  refine⟨a,fun k hk hne=> ?_,fun k hk=> ?_,fun x hx=> ?_,?_⟩
  ·show(upd g.r i (ldE q) k).saves= []∧(upd g.r i (ldE q) k).out= []
   rw[upd_ne _ _ hne]
   exact⟨(G.em k hk).1,(G.em k hk).2.1⟩
  ·have h5:=G.em k hk
   show upd g.told i (g.kept i).cm k=(upd g.r i (ldE q) k).td∧(upd g.r i (ldE q) k).td≤g.order.length∧_
   by_cases ek:k=i
   ·subst ek;rw[upd_same,upd_same,htd];exact⟨rfl,h5.2.2.2.2,h5.2.2.2.2⟩
   ·rw[upd_ne _ _ ek,upd_ne _ _ ek];exact h5.2.2
  ·refine(G.wy x hx).ext e fun k hk=> ?_
   show(g.r k).vw≤(upd g.r i (ldE q) k).vw
   exact Z60
  ·exact Z79
 exact⟨h',e,v,p⟩
theorem ldK_zero (ok:O→Bool)(i n:Nat):ldK ok i n ⟨0,0,0,0,[]⟩=some (newR i n):=by
 unfold ldK
 rw[if_pos ⟨Nat.le_refl _,Nat.zero_le _,Nat.zero_le _,Nat.le_refl _,Nat.zero_le _,rfl⟩]
 rfl
def gp0 (n:Nat):Gp O:=⟨n,fun i=>newR i n,fun _=>⟨0,0,0,0,[]⟩,fun _=> [],[],fun _=>0,[]⟩
theorem GI.zero (ok:O→Bool)(n:Nat)(hn:1≤n): ∃h,GI ok 0 h (gp0 n:Gp O):=by
 refine⟨⟨fun _=> [],fun _=>0,fun v=>v=0,fun _ _=>0⟩,?_⟩
 have hcore:Core n (⟨fun _=> [],fun _=>0,fun v=>v=0,fun _ _=>0⟩:Gh O) (fun k=>(newR k n:Rp O).vw) (fun k=>(newR k n:Rp O).nr) (fun k=>(newR k n:Rp O).ls):=
  ⟨hn,rfl,rfl,fun _ _=>Nat.le_refl _,fun _ _=>⟨rfl,fun _=>rfl⟩,fun v hv=>Nat.le_of_eq hv,fun _ _ _=>rfl,fun _ _=>rfl,fun _ _=>Nat.le_refl _,fun _ _=>⟨Nat.le_refl _,Nat.le_refl _⟩,fun _ _=>rfl,fun _ _ _ _=>rfl,fun _ _ _=>Nat.le_refl _,fun v hv h0=>absurd hv Z18⟩
 refine⟨⟨hcore,fun i hi=> ?_,fun i hi=> ?_,fun v=>⟨rfl,Nat.le_refl _⟩⟩,fun i hi=>⟨rfl,rfl,rfl,Nat.le_refl _,Nat.le_refl _⟩,fun x hx=>(by cases hx),⟨0,(hcore.stab0 0).choose_spec.2.cm hn|>fun _=>⟨rfl,Maj.all hn fun _ _=>by simp[gp0]⟩,rfl⟩⟩
 ·refine⟨rfl,rfl,⟨by show 0≤2;omega,⟨fun e=>absurd e Z77,fun e=>absurd e (by show¬(0:Nat)<0;omega)⟩⟩,Nat.zero_le _,⟨Nat.le_refl _,List.nil_prefix⟩,rfl,⟨Nat.le_refl _,Nat.le_refl _,Nat.le_refl _,Nat.le_refl _⟩,hcore.sure0 _,hcore.stab0 _,hcore.stab0 _,fun k o ho=>(by cases ho),List.length_replicate,fun _ _ k hk=> ?_,fun x hx=>(by cases hx)⟩
  show(List.replicate n 0).getD k 0≤0
  rw[List.getD_eq_getElem?_getD,List.getElem?_replicate]
  split<;>simp
 ·refine⟨⟨newR i n,newR i n,?_,rfl,?_⟩,Nat.le_refl _⟩
  ·exact ldK_zero ok i n
  ·exact⟨rfl,rfl,rfl,rfl,rfl,rfl,rfl,rfl,⟨Nat.le_refl _,List.nil_prefix⟩,rfl,⟨Nat.le_refl _,Nat.le_refl _,Nat.le_refl _⟩,hcore.sure0 _,hcore.stab0 _,hcore.stab0 _,rfl,fun _=>rfl,rfl,rfl⟩
end Go.Proofs.YtdmjegelcdghlaaGreat.Vw
namespace Go.Proofs.YtdmjegelcdghlaaGreat
theorem Z214 {p:Prop}(h:p:=by exact(Mo.refl r).up Z18 Z18):p:=h
theorem Z205 {p:Prop}(h:p:=by
 split
 ·exact(mo_start r [m.fr]).up (by show 1≤_;omega) Z18
 ·exact(Mo.refl r).up Z18 Z18):p:=h
theorem Z90 {p:Prop}(h:p:=by show(r.saves++ [_]).length≤_;rw[List.length_append];exact Nat.le_refl _):p:=h
end Go.Proofs.YtdmjegelcdghlaaGreat
namespace Go.Proofs.YtdmjegelcdghlaaGreat.Vw
variable {O:Type}
structure Mo (a b:Nat)(r r':Rp O):Prop where
 o:r'.out.length≤r.out.length+a
 s:r'.saves.length≤r.saves.length+b
 n:r'.n=r.n
theorem Mo.refl (r:Rp O):Mo 0 0 r r:=⟨Nat.le_refl _,Nat.le_refl _,rfl⟩
theorem Mo.trans {a b a' b':Nat}{r r1 r2:Rp O}(h:Mo a b r r1)(g:Mo a' b' r1 r2):Mo (a+a') (b+b') r r2:=⟨by have:=h.o;have:=g.o;omega,by have:=h.s;have:=g.s;omega,g.n.trans h.n⟩
theorem Mo.up {a b a' b':Nat}{r r':Rp O}(h:Mo a b r r')(ha:a≤a')(hb:b≤b'):Mo a' b' r r':=⟨Nat.le_trans h.o Z18,Nat.le_trans h.s Z18,h.n⟩
theorem msTo_len (f:Rp O→Nat→Ms O)(r:Rp O)(ks:List Nat):(msTo f r ks).length≤ks.length:=by
 unfold msTo
 rw[List.length_map]
 exact List.length_filter_le _ _
theorem Mo.send (f:Rp O→Nat→Ms O)(r:Rp O)(ks:List Nat):Mo ks.length 0 r {r with out:=r.out++msTo f r ks}:=
 ⟨by show(r.out++_).length≤_;rw[List.length_append];have:=msTo_len f r ks;omega,Nat.le_refl _,rfl⟩
theorem mo_snd1 (m:Ms O)(r:Rp O)(k:Nat):Mo 1 0 r (snd1 m r k):=by rw[snd1_eq];exact Mo.send _ r [k]
theorem mo_sndL (m:Ms O)(r:Rp O)(ks:List Nat):Mo ks.length 0 r (sndL m r ks):=by rw[sndL_eq];exact Mo.send _ r ks
theorem mo_start (r:Rp O)(ks:List Nat):Mo ks.length 0 r (start r ks):=by rw[start_eq];exact Mo.send _ r ks
theorem mo_tell (r:Rp O):Mo r.n 0 r (tell r):=by
 rw[tell_eq]
 have h:=Mo.send mPrep r (List.range r.n)
 rw[List.length_range] at h
 exact h
theorem mo_count (r:Rp O):Mo 0 0 r (count r):=⟨Nat.le_refl _,Nat.le_refl _,rfl⟩
theorem mo_save (r:Rp O)(a:Nat):Mo 0 1 r (save r a):=⟨Nat.le_refl _,Z90,rfl⟩
theorem mo_turn (r:Rp O)(v:Nat):Mo 0 1 r (turn r v):=⟨Nat.le_refl _,Z90,rfl⟩
theorem mo_begin (r:Rp O):Mo r.n 1 r (begin_ r):=by
 unfold begin_
 split
 ·split
  ·exact(Mo.refl r).up (Nat.zero_le _) (Nat.zero_le _)
  ·rename_i o _
   dsimp only
   have h1:Mo 0 0 r (begun1 r o):=⟨Nat.le_refl _,Nat.le_refl _,rfl⟩
   have h2:=h1.trans (mo_save (begun1 r o) (max o.ao r.bs))
   have h3:=(h2.trans (mo_start _ (List.range (save (begun1 r o) (max o.ao r.bs)).n))).trans (mo_count _)
   rw[List.length_range,h2.n] at h3
   rw[h2.n]
   exact h3.up Z18 Z18
 ·exact(Mo.refl r).up (Nat.zero_le _) (Nat.zero_le _)
theorem mo_change (r:Rp O)(v:Nat):Mo (2*r.n+1) 2 r (change r v):=by
 unfold change offer
 have h1:=(mo_turn r v).trans (mo_sndL (mKd 3) (turn r v) (List.range r.n))
 rw[List.length_range] at h1
 have h2:=h1.trans (mo_snd1 (mOffer (sndL (mKd 3) (turn r v) (List.range r.n))) (sndL (mKd 3) (turn r v) (List.range r.n)) (prm (sndL (mKd 3) (turn r v) (List.range r.n))))
 have h3:=h2.trans (mo_begin _)
 rw[h2.n] at h3
 exact h3.up Z18 Z18
theorem mo_prepare (r:Rp O)(m:Ms O):Mo 1 1 r (prepare r m):=by
 unfold prepare report
 split
 ·have h1:Mo 0 1 r (prep1 r m):=by
   unfold prep1
   dsimp only
   split
   ·exact⟨Nat.le_refl _,Z90,rfl⟩
   ·exact⟨Nat.le_refl _,Nat.le_succ _,rfl⟩
  have h2:Mo 0 0 (prep1 r m) (prep2 (prep1 r m) m):=⟨Nat.le_refl _,Nat.le_refl _,rfl⟩
  exact((h1.trans h2).trans (mo_snd1 _ _ _)).up Z18 Z18
 ·exact(mo_snd1 _ _ _).up Z18 Z18
theorem mo_begunM (r:Rp O)(m:Ms O):Mo 1 1 r (begunM r m):=by
 unfold begunM report
 split
 ·have h1:Mo 0 0 r {r with st:=0,idle:=0}:=⟨Nat.le_refl _,Nat.le_refl _,rfl⟩
  exact(h1.trans (mo_snd1 _ _ _)).up Z18 Z18
 ·split
  ·exact Z214
  ·have h1:Mo 0 0 r (begunM1 r m):=⟨Nat.le_refl _,Nat.le_refl _,rfl⟩
   exact((h1.trans (mo_save _ _)).trans (mo_snd1 _ _ _)).up Z18 Z18
theorem mo_offerM (r:Rp O)(m:Ms O):Mo (r.n+1) 1 r (offerM r m):=by
 unfold offerM
 split
 ·have h1:Mo 0 0 r {r with offs:=upd r.offs m.fr (some ⟨m.nr,m.ao,m.cm,m.ops⟩)}:=⟨Nat.le_refl _,Nat.le_refl _,rfl⟩
  have h2:=h1.trans (mo_begin _)
  exact h2.up (by show 0+r.n≤_;omega) Z18
 ·exact Z205
theorem mo_take (r:Rp O)(m:Ms O):Mo (3*r.n+2) 3 r (take r m):=by
 unfold take
 split
 ·split
  ·exact(mo_snd1 _ _ _).up Z18 Z18
  ·exact Z214
 split
 ·split
  ·exact((mo_turn r m.vw).trans (mo_prepare _ m)).up Z18 Z18
  ·exact(mo_prepare r m).up Z18 Z18
 split
 ·split
  ·exact Z214
  ·split
   ·exact⟨Nat.le_add_right _ _,Nat.le_add_right _ _,rfl⟩
   ·exact Z214
 split
 ·split
  ·exact(mo_change r _).up Z18 Z18
  ·exact Z205
 split
 ·split
  ·have h1:=mo_change r m.vw
   have h2:=h1.trans (mo_offerM _ m)
   rw[h1.n] at h2
   exact h2.up Z18 Z18
  ·exact(mo_offerM r m).up Z18 Z18
 split
 ·exact(mo_begunM r m).up Z18 Z18
 split
 ·split
  ·exact Z214
  ·exact Z205
 ·exact Z214
theorem mo_tick (r:Rp O):Mo (2*r.n+1) 2 r (tick r):=by
 unfold tick
 split
 ·exact(mo_tell r).up Z18 Z18
 ·have h1:Mo 0 0 r {r with idle:=r.idle+1}:=⟨Nat.le_refl _,Nat.le_refl _,rfl⟩
  dsimp only
  split
  ·exact(h1.trans (mo_change _ _)).up (by show 0+(2*r.n+1)≤_;omega) Z18
  ·split
   ·unfold offer
    have h2:=h1.trans (mo_sndL (mKd 3) {r with idle:=r.idle+1} (List.range r.n))
    rw[List.length_range] at h2
    exact(h2.trans (mo_snd1 _ _ _)).up Z18 Z18
   ·exact h1.up Z18 Z18
theorem mo_ask (r:Rp O)(o:O):Mo r.n 1 r (ask r o):=by
 unfold ask
 have h1:Mo 0 0 r (ask1 r o):=⟨Nat.le_refl _,Nat.le_refl _,rfl⟩
 have h2:=(h1.trans (mo_save _ r.ls)).trans (mo_count _)
 have h3:=h2.trans (mo_tell _)
 rw[h2.n] at h3
 exact h3.up Z18 Z18
end Go.Proofs.YtdmjegelcdghlaaGreat.Vw
namespace Go.Proofs.YtdmjegelcdghlaaGreat
theorem Z235 {p:Prop}(h:p:=by exact aux (Pw.refl V r) Z18):p:=h
theorem Z226 {p:Prop}(h:p:=by
 split
 ·exact aux (pw_start V r [m.fr]) (by rw[h];show 1*2+1≤wk _;decide)
 ·exact Z235):p:=h
end Go.Proofs.YtdmjegelcdghlaaGreat
namespace Go.Proofs.YtdmjegelcdghlaaGreat.Vw
variable {O:Type}
def wk (kd:Nat):Nat:=if kd=1 then 5 else if kd=2 then 1 else if kd=3 then 3 else if kd=4 then 3 else if kd=5 then 2 else if kd=6 then 4 else 1
def wsum:List (Sd O)→Nat
 | []=>0
 |x::l=>wk x.m.kd+wsum l
theorem wk_pos (k:Nat):1≤wk k∧wk k≤5:=by
 unfold wk
 repeat' split
 all_goals omega
theorem wsum_app (l m:List (Sd O)):wsum (l++m)=wsum l+wsum m:=by
 induction l with
 |nil=>simp[wsum]
 |cons a l ih=>rw[List.cons_append,wsum,ih,wsum];omega
theorem wsum_len (l:List (Sd O)):l.length≤wsum l:=by
 induction l with
 |nil=>simp[wsum]
 |cons a l ih=>rw[wsum,List.length_cons];have:=(wk_pos a.m.kd).1;omega
theorem wsum_to (f:Rp O→Nat→Ms O)(r:Rp O)(kd:Nat)(hf: ∀k,(f r k).kd=kd): ∀ks:List Nat,wsum (msTo f r ks)≤ks.length*wk kd
 | []=>by simp[msTo,wsum]
 |k::ks=>by
  have ih:=wsum_to f r kd hf ks
  unfold msTo at ih⊢
  rw[List.filter_cons]
  split
  ·rw[List.map_cons,wsum,List.length_cons,Nat.succ_mul]
   show wk (f r k).kd+_≤_
   rw[hf];omega
  ·rw[List.length_cons,Nat.succ_mul];omega
def ph (V:Nat)(r:Rp O):Nat:=29*(V-r.vw)+(if r.st=1 then 10 else 0)+wsum r.out
structure Pw (V d:Nat)(r r':Rp O):Prop where
 p:ph V r'≤ph V r+d
 n:r'.n=r.n
 vw:r.vw≤r'.vw
theorem Pw.refl (V:Nat)(r:Rp O):Pw V 0 r r:=⟨Nat.le_refl _,rfl,Nat.le_refl _⟩
theorem Pw.trans {V d e:Nat}{r r1 r2:Rp O}(h:Pw V d r r1)(g:Pw V e r1 r2):Pw V (d+e) r r2:=⟨by have:=h.p;have:=g.p;omega,g.n.trans h.n,Nat.le_trans h.vw g.vw⟩
theorem Pw.up {V d e:Nat}{r r':Rp O}(h:Pw V d r r')(he:d≤e):Pw V e r r':=⟨by have:=h.p;omega,h.n,h.vw⟩
theorem Pw.same {V:Nat}{r r':Rp O}(h1:r'.vw=r.vw)(h2:r'.st=r.st∨r'.st≠1)(h3:r'.out=r.out)(h4:r'.n=r.n):Pw V 0 r r':=by
 refine⟨?_,h4,Nat.le_of_eq h1.symm⟩
 unfold ph
 rw[h1,h3]
 rcases h2 with h2|h2
 ·rw[h2];omega
 ·rw[if_neg h2];omega
theorem Pw.send (V:Nat)(f:Rp O→Nat→Ms O)(r:Rp O)(kd:Nat)(hf: ∀k,(f r k).kd=kd)(ks:List Nat):Pw V (ks.length*wk kd) r {r with out:=r.out++msTo f r ks}:=by
 refine⟨?_,rfl,Nat.le_refl _⟩
 have h:=wsum_to f r kd hf ks
 unfold ph
 show _+_+wsum (r.out++msTo f r ks)≤_
 rw[wsum_app]
 dsimp only
 omega
theorem pw_snd1 (V:Nat)(m:Ms O)(r:Rp O)(k:Nat):Pw V (wk m.kd) r (snd1 m r k):=by
 rw[snd1_eq]
 exact(Pw.send V (fun _ _=>m) r m.kd (fun _=>rfl) [k]).up (by rw[List.length_singleton];omega)
theorem pw_sndL (V:Nat)(m:Ms O)(r:Rp O)(ks:List Nat):Pw V (ks.length*wk m.kd) r (sndL m r ks):=by rw[sndL_eq];exact Pw.send V (fun _ _=>m) r m.kd (fun _=>rfl) ks
theorem pw_start (V:Nat)(r:Rp O)(ks:List Nat):Pw V (ks.length*2) r (start r ks):=by
 have h:=pw_sndL V (mBegin r) r ks
 exact h
theorem pw_tell (V:Nat)(r:Rp O):Pw V (r.n*5) r (tell r):=by
 rw[tell_eq]
 have h:=Pw.send V mPrep r 1 (fun _=>rfl) (List.range r.n)
 rw[List.length_range] at h
 exact h
theorem pw_count (V:Nat)(r:Rp O):Pw V 0 r (count r):=Pw.same rfl (.inl rfl) rfl rfl
theorem pw_save (V:Nat)(r:Rp O)(a:Nat):Pw V 0 r (save r a):=Pw.same rfl (.inl rfl) rfl rfl
theorem pw_turn (V:Nat)(r:Rp O)(v:Nat)(hv:r.vw<v)(hV:v≤V):ph V (turn r v)+19≤ph V r:=by
 have e:ph V (turn r v)=29*(V-v)+10+wsum r.out:=rfl
 have e2:29*(V-r.vw)+wsum r.out≤ph V r:=by unfold ph;omega
 rw[e]
 omega
theorem pw_begin (V:Nat)(r:Rp O)(hn:r.n≤5):Pw V 0 r (begin_ r):=by
 unfold begin_
 split
 ·rename_i hm
  split
  ·exact Pw.refl V r
  ·rename_i o _
   dsimp only
   have hst:r.st=1:=by
    unfold mayBegin at hm
    simp only[Bool.and_eq_true,decide_eq_true_eq] at hm
    exact hm.1.2
   have h0:ph V (save (begun1 r o) (max o.ao r.bs))+10≤ph V r:=by
    unfold ph
    rw[if_pos hst,if_neg (show¬(save (begun1 r o) (max o.ao r.bs)).st=1 by show¬(0:Nat)=1;omega)]
    show 29*(V-r.vw)+0+wsum r.out+10≤_
    omega
   have h1:=(pw_start V (save (begun1 r o) (max o.ao r.bs)) (List.range (save (begun1 r o) (max o.ao r.bs)).n)).trans (pw_count V _)
   have hn2:(save (begun1 r o) (max o.ao r.bs)).n=r.n:=rfl
   rw[List.length_range] at h1
   refine⟨?_,h1.n,h1.vw⟩
   have:=h1.p
   have h4:(save (begun1 r o) (max o.ao r.bs)).n≤5:=hn2▸hn
   omega
 ·exact Pw.refl V r
theorem pw_change (V:Nat)(r:Rp O)(v:Nat)(hn:r.n≤5)(hv:r.vw<v)(hV:v≤V):ph V (change r v)+1≤ph V r∧(change r v).n=r.n∧r.vw≤(change r v).vw:=by
 unfold change offer
 have h0:=pw_turn V r v hv hV
 have h1:=pw_sndL V (mKd 3) (turn r v) (List.range r.n)
 rw[List.length_range] at h1
 have h2:=h1.trans (pw_snd1 V (mOffer (sndL (mKd 3) (turn r v) (List.range r.n))) (sndL (mKd 3) (turn r v) (List.range r.n)) (prm (sndL (mKd 3) (turn r v) (List.range r.n))))
 have h3:=h2.trans (pw_begin V _ (by rw[h2.n];exact hn))
 refine⟨?_,h3.n,Nat.le_trans (Nat.le_of_lt hv) h3.vw⟩
 have h4:=h3.p
 have h5:r.n*wk (mKd 3:Ms O).kd+wk 4≤18:=by
  show r.n*3+3≤18
  omega
 have h6:(mOffer (sndL (mKd 3) (turn r v) (List.range r.n))).kd=4:=rfl
 rw[h6] at h4
 have h7:(turn r v).n=r.n:=rfl
 simp only[Nat.add_zero] at h4
 show ph V (begin_ (snd1 _ (sndL (mKd 3) (turn r v) (List.range r.n)) _))+1≤_
 omega
theorem pw_prepare (V:Nat)(r:Rp O)(m:Ms O):Pw V 4 r (prepare r m):=by
 unfold prepare report
 split
 ·have h1:Pw V 0 r (prep1 r m):=by
   unfold prep1
   dsimp only
   split
   ·exact Pw.same rfl (.inr Z77) rfl rfl
   ·exact Pw.same rfl (.inr Z77) rfl rfl
  have h2:Pw V 0 (prep1 r m) (prep2 (prep1 r m) m):=Pw.same rfl (.inl rfl) rfl rfl
  exact((h1.trans h2).trans (pw_snd1 V _ _ _)).up (by show 0+0+1≤4;omega)
 ·exact(pw_snd1 V _ _ _).up (by show 4≤4;omega)
theorem pw_begunM (V:Nat)(r:Rp O)(m:Ms O)(hv:r.vw≤m.vw):Pw V 1 r (begunM r m):=by
 unfold begunM report
 split
 ·have h1:Pw V 0 r {r with st:=0,idle:=0}:=Pw.same rfl (.inr Z77) rfl rfl
  exact(h1.trans (pw_snd1 V _ _ _)).up (by show 0+1≤1;omega)
 ·split
  ·exact(Pw.refl V r).up Z18
  ·have h1:Pw V 0 r (begunM1 r m):=by
    refine⟨?_,rfl,hv⟩
    unfold ph
    rw[if_neg (show¬(begunM1 r m).st=1 by show¬(0:Nat)=1;omega)]
    show 29*(V-m.vw)+0+wsum r.out≤_
    omega
   exact((h1.trans (pw_save V _ _)).trans (pw_snd1 V _ _ _)).up (by show 0+0+1≤1;omega)
theorem pw_offerM (V:Nat)(r:Rp O)(m:Ms O)(hn:r.n≤5):Pw V 2 r (offerM r m):=by
 unfold offerM
 split
 ·have h1:Pw V 0 r {r with offs:=upd r.offs m.fr (some ⟨m.nr,m.ao,m.cm,m.ops⟩)}:=Pw.same rfl (.inl rfl) rfl rfl
  exact(h1.trans (pw_begin V _ hn)).up Z18
 ·split
  ·exact(pw_start V r [m.fr]).up (by show 1*2≤2;omega)
  ·exact(Pw.refl V r).up Z18
theorem pw_take (V:Nat)(r:Rp O)(m:Ms O)(hn:r.n≤5)(hV:m.vw≤V)(hk:1≤m.kd∧m.kd≤6):ph V (take r m)+1≤ph V r+wk m.kd∧(take r m).n=r.n∧r.vw≤(take r m).vw:=by
 have aux: ∀ {d:Nat} {r':Rp O},Pw V d r r'→d+1≤wk m.kd→ph V r'+1≤ph V r+wk m.kd∧r'.n=r.n∧r.vw≤r'.vw:=fun h hd=>⟨by have:=h.p;omega,h.n,h.vw⟩
 have hw:=(wk_pos m.kd).1
 unfold take
 split
 ·split
  ·rename_i h
   refine aux (pw_snd1 V _ _ _) ?_
   show 3+1≤_
   rcases h with h|h<;>rw[h]<;>decide
  ·exact Z235
 rename_i hnv
 split
 ·rename_i h
  rw[h]
  split
  ·rename_i hv
   have h1:=pw_turn V r m.vw hv hV
   have h2:=pw_prepare V (turn r m.vw) m
   refine⟨?_,h2.n,Nat.le_trans (Nat.le_of_lt hv) h2.vw⟩
   have:=h2.p
   have:wk 1=5:=rfl
   omega
  ·have h2:=pw_prepare V r m
   exact⟨by have:=h2.p;have:wk 1=5:=rfl;omega,h2.n,h2.vw⟩
 split
 ·rename_i h
  split
  ·exact Z235
  ·split
   ·exact aux (show Pw V 0 r (haveM r m) from Pw.same rfl (.inl rfl) rfl rfl) Z18
   ·exact Z235
 split
 ·rename_i h
  split
  ·rename_i hv
   have h1:=pw_change V r m.vw hn hv hV
   exact⟨Z18,h1.2⟩
  ·exact Z226
 split
 ·rename_i h
  split
  ·rename_i hv
   have h1:=pw_change V r m.vw hn hv hV
   have h2:=pw_offerM V (change r m.vw) m (by rw[h1.2.1];exact hn)
   refine⟨?_,h2.n.trans h1.2.1,Nat.le_trans h1.2.2 h2.vw⟩
   have:=h2.p
   have:wk m.kd=3:=by rw[h];decide
   omega
  ·exact aux (pw_offerM V r m hn) (by rw[h];decide)
 split
 ·rename_i h
  exact aux (pw_begunM V r m Z18) (by rw[h];decide)
 split
 ·rename_i h
  split
  ·exact Z235
  ·exact Z226
 ·exact Z235
theorem pw_tick (V:Nat)(r:Rp O)(hn:r.n≤5)(hV:r.vw+1≤V):Pw V 25 r (tick r):=by
 unfold tick
 split
 ·exact(pw_tell V r).up Z18
 ·have h1:Pw V 0 r {r with idle:=r.idle+1}:=Pw.same rfl (.inl rfl) rfl rfl
  dsimp only
  split
  ·have h2:=pw_change V {r with idle:=r.idle+1} (r.vw+1) hn (by show r.vw<_;omega) hV
   exact⟨by have:=h1.p;have:=h2.1;omega,h2.2.1,h2.2.2⟩
  ·split
   ·unfold offer
    have h2:=h1.trans (pw_sndL V (mKd 3) {r with idle:=r.idle+1} (List.range r.n))
    rw[List.length_range] at h2
    exact(h2.trans (pw_snd1 V _ _ _)).up (by show 0+r.n*3+3≤25;omega)
   ·exact h1.up Z18
theorem pw_ask (V:Nat)(r:Rp O)(o:O)(hn:r.n≤5):Pw V 25 r (ask r o):=by
 unfold ask
 have h1:Pw V 0 r (ask1 r o):=Pw.same rfl (.inl rfl) rfl rfl
 have h2:=(h1.trans (pw_save V _ r.ls)).trans (pw_count V _)
 have h3:=h2.trans (pw_tell V _)
 rw[h2.n] at h3
 exact h3.up Z18
end Go.Proofs.YtdmjegelcdghlaaGreat.Vw
namespace Go.Proofs.YtdmjegelcdghlaaGreat
theorem Z223 {p:Prop}(h:p:=by rw[if_neg Z18,hl];exact hrefl):p:=h
theorem Z121 {p:Prop}(h:p:=by unfold prep1;dsimp only;split<;>rfl):p:=h
theorem Z115 {p:Prop}(h:p:=by
 split
 ·rw[snd1_eq];exact hrefl
 ·exact hrefl):p:=h
theorem Z74 {p:Prop}(h:p:=by
 rw[hw] at hy
 rcases List.mem_cons.1 hy with e|e
 ·exact absurd e hne
 ·exact List.mem_append_left _ e):p:=h
end Go.Proofs.YtdmjegelcdghlaaGreat
namespace Go.Proofs.YtdmjegelcdghlaaGreat.Vw
variable {O:Type}
theorem now_r (g:Gp O)(i:Nat)(r:Rp O):(g.now i r).r=upd g.r i (clr r):=by
 show upd (upd g.r i r) i (clr (upd g.r i r i))=_
 rw[upd_same,upd_upd]
theorem now_way (g:Gp O)(i:Nat)(r:Rp O):(g.now i r).way=g.way++r.out:=by
 show g.way++(upd g.r i r i).out=_
 rw[upd_same]
theorem wayOut_0 {g:Gp O}{x:Sd O}{l:List (Sd O)}(h:g.way=x::l):(wayOut g 0).way=l:=by
 show g.way.take 0++g.way.drop (0+1)=l
 rw[h];rfl
theorem evTake_r (g:Gp O)(k:Nat)(x:Sd O):(evTake g k x).r=upd g.r x.to (clr (take (g.r x.to) x.m)):=now_r _ _ _
theorem evTake_way {g:Gp O}{x:Sd O}{l:List (Sd O)}(h:g.way=x::l):(evTake g 0 x).way=l++(take (g.r x.to) x.m).out:=by
 show((wayOut g 0).now x.to (take (g.r x.to) x.m)).way=_
 rw[now_way,wayOut_0 h]
theorem mem_msTo {f:Rp O→Nat→Ms O}{r:Rp O}{ks:List Nat}{k:Nat}(hk:k∈ks)(hi:k≠r.id):(⟨k,{f r k with fr:=r.id,vw:=r.vw}⟩:Sd O)∈msTo f r ks:=by
 unfold msTo
 exact List.mem_map.2 ⟨k,List.mem_filter.2 ⟨hk,by simpa using hi⟩,rfl⟩
def Dn (V:Nat)(r:Rp O):Prop:=r.nr=V∧r.st=0∧r.idle=0
theorem leads_no {r:Rp O}(h:r.vw % r.n≠r.id):leads r=false:=by
 unfold leads prm
 rw[show decide (r.vw % r.n=r.id)=false from by simpa using h,Bool.and_false]
theorem leads_yes {r:Rp O}(h:r.vw % r.n=r.id)(hs:r.st=0):leads r=true:=by
 unfold leads prm
 simp[h,hs]
theorem dn_take {r:Rp O}{m:Ms O}{V:Nat}(hv:r.vw=V)(hd:Dn V r)(hp:r.vw % r.n≠r.id)(hm:m.vw≤V):Dn V (take r m)∧(take r m).vw=V∧r.ls≤(take r m).ls∧r.cm≤(take r m).cm∧r.sb≤(take r m).sb:=by
 have hl:=leads_no hp
 have hrefl:Dn V r∧r.vw=V∧r.ls≤r.ls∧r.cm≤r.cm∧r.sb≤r.sb:=⟨hd,hv,Nat.le_refl _,Nat.le_refl _,Nat.le_refl _⟩
 unfold take
 split
 ·exact Z115
 rename_i hnv
 have hmv:m.vw=V:=by omega
 split
 ·rw[if_neg Z18]
  unfold prepare report
  rw[if_pos (hd.1.trans hv.symm),snd1_eq]
  have h1:(prep1 r m).nr=r.nr∧(prep1 r m).st=0∧(prep1 r m).idle=0∧(prep1 r m).vw=r.vw∧r.ls≤(prep1 r m).ls∧(prep1 r m).cm=r.cm∧(prep1 r m).sb=r.sb:=by
   unfold prep1
   dsimp only
   split
   ·rename_i h2
    exact⟨rfl,rfl,rfl,rfl,Nat.le_of_lt h2.2,rfl,rfl⟩
   ·exact⟨rfl,rfl,rfl,rfl,Nat.le_refl _,rfl,rfl⟩
  exact⟨⟨h1.1.trans hd.1,h1.2.1,h1.2.2.1⟩,h1.2.2.2.1.trans hv,h1.2.2.2.2.1,by show _≤max (prep1 r m).cm _;rw[h1.2.2.2.2.2.1];exact Nat.le_max_left _ _,by show _≤max (prep1 r m).sb _;rw[h1.2.2.2.2.2.2];exact Nat.le_max_left _ _⟩
 split
 ·exact Z223
 split
 ·exact Z223
 split
 ·rw[if_neg Z18]
  unfold offerM
  rw[if_neg (by rw[hd.2.1];omega),hl];exact hrefl
 split
 ·unfold begunM report
  rw[if_pos (hd.1.trans hmv.symm),snd1_eq]
  exact⟨⟨hd.1,rfl,rfl⟩,hv,Nat.le_refl _,Nat.le_refl _,Nat.le_refl _⟩
 split
 ·exact Z223
 ·exact hrefl
theorem lead_take {r:Rp O}{m:Ms O}(hs:r.st=0)(hp:r.vw % r.n=r.id)(hm:m.vw≤r.vw)(hk:m.vw=r.vw→m.kd≠1∧m.kd≠5):(take r m).vw=r.vw∧(take r m).st=0∧(take r m).ls=r.ls∧r.cm≤(take r m).cm∧r.sb≤(take r m).sb∧ ∀k,k≠r.id→r.hv.getD k 0≤(take r m).hv.getD k 0:=by
 have hl:=leads_yes hp hs
 have hrefl:r.vw=r.vw∧r.st=0∧r.ls=r.ls∧r.cm≤r.cm∧r.sb≤r.sb∧ ∀k,k≠r.id→r.hv.getD k 0≤r.hv.getD k 0:=⟨rfl,hs,rfl,Nat.le_refl _,Nat.le_refl _,fun _ _=>Nat.le_refl _⟩
 unfold take
 split
 ·exact Z115
 rename_i hnv
 have hk':=hk Z18
 rw[if_neg hk'.1]
 split
 ·rw[if_neg Z18];try rw[if_pos hl]
  refine⟨rfl,hs,rfl,Nat.le_max_left _ _,Nat.le_max_left _ _,fun k hk=> ?_⟩
  show _≤((r.hv.set m.fr (max (r.hv.getD m.fr 0) (min m.ls r.ls))).set r.id r.ls).getD k 0
  simp only[List.getD_eq_getElem?_getD,List.getElem?_set,if_neg (Ne.symm hk)]
  by_cases e:m.fr=k
  ·subst e
   rw[if_pos rfl]
   by_cases hlt:m.fr<r.hv.length
   ·rw[if_pos hlt];exact Nat.le_max_left _ _
   ·rw[if_neg hlt,List.getElem?_eq_none Z18];exact Nat.le_refl _
  ·rw[if_neg e];exact Nat.le_refl _
 split
 ·(rw[if_neg Z18];try rw[if_pos hl]);rw[start_eq];exact hrefl
 split
 ·rw[if_neg Z18]
  unfold offerM
  (rw[if_neg (by rw[hs];omega)];try rw[if_pos hl]);rw[start_eq];exact hrefl
 rw[if_neg hk'.2]
 split
 ·(rw[if_neg Z18];try rw[if_pos hl]);rw[start_eq];exact hrefl
 ·exact hrefl
structure Led (V n:Nat)(r:Nat→Rp O)(way:List (Sd O)):Prop where
 pv:(r (V % n)).vw=V
 ps:(r (V % n)).st=0
 each: ∀k,k<n→k≠V % n→Dn V (r k)∨(∃x∈way,x.to=k∧x.m.vw=V∧(x.m.kd=1∨x.m.kd=5))∨(∃x∈way,x.to=V % n∧x.m.fr=k∧x.m.vw=V∧x.m.kd=6)
variable {N:Nat} {ok:O→Bool} {h:Gh O} {g:Gp O} {V:Nat}
def Top (V:Nat)(g:Gp O):Prop:= ∀k,k<g.n→(g.r k).vw≤V
theorem GI.rep (G:GI ok N h g){i:Nat}(hi:i<g.n):RI g.n ok h (fun k=>(g.r k).vw) i (g.r i):=G.al.rep i hi
theorem GI.n1 (G:GI ok N h g):1≤g.n:=G.al.core.n1
theorem GI.msv (G:GI ok N h g)(T:Top V g){x:Sd O}(hx:x∈g.way):x.m.vw≤V:=Nat.le_trans (G.wy x hx).vv (T _ (G.wy x hx).fr)
theorem MI.notP {n:Nat}{vw:Nat→Nat}{x:Sd O}(f:MI n ok h vw x)(hto:x.to=x.m.vw % n):x.m.kd≠1∧x.m.kd≠5:=by
 have hne:=f.ne
 rcases f.kd with g1|g1|g1|g1|g1
 ·exact absurd (g1.2.2.2.1.trans hto.symm) hne
 ·have:=g1.1;omega
 ·have:=g1.1;omega
 ·have:=g1.1;omega
 ·exact absurd (g1.2.2.2.2.1.trans hto.symm) hne
theorem Led.take (G:GI ok N h g)(T:Top V g)(L:Led V g.n g.r g.way){x:Sd O}{l:List (Sd O)}(hw:g.way=x::l):Led V g.n (evTake g 0 x).r (evTake g 0 x).way:=by
 have hx:x∈g.way:=by rw[hw];exact List.mem_cons_self
 have X:=G.wy x hx
 have hmv:=G.msv T hx
 have hPn:V % g.n<g.n:=Nat.mod_lt _ G.n1
 rw[evTake_r,evTake_way hw]
 have stay: ∀y∈g.way,y≠x→y∈l++(Vw.take (g.r x.to) x.m).out:=fun y hy hne=>by
  exact Z74
 have rP:=G.rep hPn
 by_cases hP:x.to=V % g.n
 ·
   have hpv:(g.r x.to).vw=V:=by rw[hP];exact L.pv
   have hps:(g.r x.to).st=0:=by rw[hP];exact L.ps
   have hid:(g.r x.to).vw %(g.r x.to).n=(g.r x.to).id:=by rw[hpv,hP,rP.nn,rP.id]
   have h1:=lead_take (m:=x.m) hps hid (by rw[hpv];exact hmv) (fun e=>X.notP (by rw[e,hpv];exact hP))
   refine⟨?_,?_,fun k hk hne=> ?_⟩
   ·rw[←hP,upd_same];exact h1.1.trans hpv
   ·rw[←hP,upd_same];exact h1.2.1
   ·rw[upd_ne _ _ (by rw[hP];exact hne)]
    rcases L.each k hk hne with a|⟨y,hy,a1,a2,a3⟩|⟨y,hy,a1,a2,a3,a4⟩
    ·exact .inl a
    ·exact .inr (.inl ⟨y,stay y hy (fun e=>hne (by rw[←a1,e];exact hP)),a1,a2,a3⟩)
    ·by_cases e:y=x
     ·subst e
      refine .inr (.inl ⟨⟨k,{mBegin (g.r y.to) with fr:=(g.r y.to).id,vw:=(g.r y.to).vw}⟩,List.mem_append_right _ ?_,rfl,hpv,.inr rfl⟩)
      unfold Vw.take
      rw[if_neg Z18,if_neg Z18,if_neg Z18,if_neg Z18,if_neg Z18,if_neg Z18,if_pos a4,if_neg Z18,leads_yes hid hps,if_pos rfl,start_eq]
      refine List.mem_append_right _ ?_
      rw[a2]
      exact mem_msTo (f:=fun _ _=>mBegin (g.r y.to)) List.mem_cons_self (by rw[hP,rP.id];exact hne)
     ·exact .inr (.inr ⟨y,stay y hy e,a1,a2,a3,a4⟩)
 ·
   have hi:=X.to
   have ri:=G.rep hi
   refine⟨?_,?_,fun k hk hne=> ?_⟩
   ·rw[upd_ne _ _ (Ne.symm hP)];exact L.pv
   ·rw[upd_ne _ _ (Ne.symm hP)];exact L.ps
   by_cases ek:k=x.to
   ·subst ek
    rw[upd_same]
    have hvi:=T x.to hi
    rcases L.each x.to hk hne with a|⟨y,hy,a1,a2,a3⟩|⟨y,hy,a1,a2,a3,a4⟩
    ·have hv:(g.r x.to).vw=V:=by
      have:=G.al.core.le x.to hi
      have e:=a.1
      omega
     have h1:=dn_take (m:=x.m) hv a (by rw[hv,ri.nn,ri.id];exact Ne.symm hP) hmv
     exact .inl h1.1
    ·by_cases e:y=x
     ·subst e
      have hfr:y.m.fr=V % g.n:=by
       rcases X.kd with g1|g1|g1|g1|g1
       ·rw[←a2];exact g1.2.2.2.1
       ·have:=g1.1;omega
       ·have:=g1.1;omega
       ·have:=g1.1;omega
       ·rw[←a2];exact g1.2.2.2.2.1
      rcases a3 with a3|a3
      ·
        have hgo:Vw.take (g.r y.to) y.m=prepare (if(g.r y.to).vw<y.m.vw then turn (g.r y.to) y.m.vw else g.r y.to) y.m:=by
         unfold Vw.take
         rw[if_neg Z18,if_pos a3]
        obtain⟨q,hq,q1,q2,q3⟩: ∃q:Rp O,(if(g.r y.to).vw<y.m.vw then turn (g.r y.to) y.m.vw else g.r y.to)=q∧q.vw=V∧q.id=y.to∧q.n=g.n:=by
         refine⟨_,rfl,?_,?_,?_⟩
         ·split
          ·exact a2
          ·omega
         ·split
          ·exact ri.id
          ·exact ri.id
         ·split
          ·exact ri.nn
          ·exact ri.nn
        rw[hgo,hq]
        unfold prepare report
        by_cases e:q.nr=q.vw
        ·rw[if_pos e,snd1_eq]
         refine .inl ⟨?_,?_,?_⟩
         ·show(prep1 q y.m).nr=V
          unfold prep1;dsimp only;split
          ·exact e.trans q1
          ·exact e.trans q1
         ·show(prep1 q y.m).st=0
          exact Z121
         ·show(prep1 q y.m).idle=0
          exact Z121
        ·rw[if_neg e,snd1_eq]
         refine .inr (.inr ⟨⟨y.m.fr,{ (mKd 6:Ms O) with fr:=q.id,vw:=q.vw}⟩,List.mem_append_right _ (List.mem_append_right _ (mem_msTo (f:=fun _ _=>mKd 6) List.mem_cons_self (by rw[q2];exact X.ne))),hfr,q2,q1,rfl⟩)
      ·
        have hgo:Vw.take (g.r y.to) y.m=begunM (g.r y.to) y.m:=by
         unfold Vw.take
         rw[if_neg Z18,if_neg Z18,if_neg Z18,if_neg Z18,if_neg Z18,if_pos a3]
        rw[hgo]
        unfold begunM report
        by_cases e:(g.r y.to).nr=y.m.vw
        ·rw[if_pos e,snd1_eq]
         exact .inl ⟨e.trans a2,rfl,rfl⟩
        ·have hk5:h.B y.m.vw∧h.I y.m.vw≤y.m.ao+y.m.ops.length∧Stab g.n h y.m.vw y.m.ao:=by
          rcases X.kd with g1|g1|g1|g1|g1
          ·have:=g1.1;omega
          ·have:=g1.1;omega
          ·have:=g1.1;omega
          ·have:=g1.1;omega
          ·exact⟨g1.2.2.2.2.2.1,g1.2.2.2.2.2.2.2.1,g1.2.2.2.2.2.2.2.2.2.2.2⟩
         have h1:y.m.ao≤(g.r y.to).ls:=G.al.core.stab_ls hi hk5.2.2
         have h2:(g.r y.to).nr<y.m.vw:=by have:=G.al.core.le y.to hi;omega
         have h3:=G.al.core.sure_new h2 hk5.1 ri.cm
         rw[if_neg e,if_neg (by have:=hk5.2.1;omega),snd1_eq]
         exact .inl ⟨a2,rfl,rfl⟩
     ·exact .inr (.inl ⟨y,stay y hy e,a1,a2,a3⟩)
    ·exact .inr (.inr ⟨y,stay y hy (fun e=>hP (by rw[←a1,e])),a1,a2,a3,a4⟩)
   ·rw[upd_ne _ _ ek]
    rcases L.each k hk hne with a|⟨y,hy,a1,a2,a3⟩|⟨y,hy,a1,a2,a3,a4⟩
    ·exact .inl a
    ·exact .inr (.inl ⟨y,stay y hy (fun e=>ek (by rw[←a1,e])),a1,a2,a3⟩)
    ·exact .inr (.inr ⟨y,stay y hy (fun e=>hP (by rw[←a1,e])),a1,a2,a3,a4⟩)
variable {O:Type}
variable {N:Nat} {ok:O→Bool} {h:Gh O} {g:Gp O} {V:Nat}
def Off (n V:Nat)(h:Gh O)(r:Nat→Rp O)(k:Nat):Prop:=((r (V % n)).offs k).isSome=true∨ ∃o,OF n h (fun k=>(r k).vw) V k o∧o.last<(r (V % n)).cm
structure Cand (V n:Nat)(h:Gh O)(r:Nat→Rp O)(way:List (Sd O)):Prop where
 nb:(r (V % n)).nr<V
 nm:(r (V % n)).vw=V→mayBegin (r (V % n))=false
 own:(r (V % n)).vw=V→((r (V % n)).offs (V % n)).isSome=true
 each: ∀k,k<n→((r k).vw<V∧ ∃x∈way,x.to=k∧(x.m.kd=3∨x.m.kd=4)∧x.m.vw=V)∨
  ((r k).vw=V∧(k≠V % n→(∃x∈way,x.to=V % n∧x.m.fr=k∧x.m.kd=4∧x.m.vw=V)∨((r (V % n)).vw=V∧Off n V h r k)))
theorem begin_cases (r:Rp O)(hn:1≤r.n):(begin_ r=r∧mayBegin r=false)∨((begin_ r).st=0∧(begin_ r).vw=r.vw∧(begin_ r).id=r.id∧ ∀k,k<r.n→k≠r.id→ ∃x∈(begin_ r).out,x.to=k∧x.m.vw=r.vw∧x.m.kd=5):=by
 by_cases hm:mayBegin r=true
 ·obtain⟨o,ho⟩: ∃o,bestO (offL r)=some o:=bestO_some _ (by
   unfold mayBegin at hm
   simp only[Bool.and_eq_true,decide_eq_true_eq] at hm
   omega)
  refine .inr ?_
  have e:begin_ r=count (start (save (begun1 r o) (max o.ao r.bs)) (List.range (save (begun1 r o) (max o.ao r.bs)).n)):=by
   unfold begin_
   rw[if_pos hm,ho]
  rw[e,start_eq]
  refine⟨rfl,rfl,rfl,fun k hk hne=> ?_⟩
  exact⟨⟨k,{mBegin (save (begun1 r o) (max o.ao r.bs)) with fr:=r.id,vw:=r.vw}⟩,List.mem_append_right _ (mem_msTo (f:=fun _ _=>mBegin (save (begun1 r o) (max o.ao r.bs))) (List.mem_range.2 hk) hne),rfl,rfl,rfl⟩
 ·refine .inl ⟨?_,by simpa using hm⟩
  unfold begin_
  rw[if_neg hm]
def chg0 (r:Rp O)(v:Nat):Rp O:=offer (sndL (mKd 3) (turn r v) (List.range r.n))
theorem change_is (r:Rp O)(v:Nat):change r v=begin_ (chg0 r v):=rfl
theorem chg0_is (r:Rp O)(v:Nat):(chg0 r v).vw=v∧(chg0 r v).id=r.id∧(chg0 r v).n=r.n∧(chg0 r v).nr=r.nr∧(chg0 r v).cm=r.cm∧(chg0 r v).st=1∧(chg0 r v).ls=r.ls∧
 (chg0 r v).offs=(if v % r.n=r.id then upd (fun _=>none) r.id (some ⟨r.nr,r.bs,r.cm,r.log⟩) else fun _=>none)∧
 (∀k,k<r.n→k≠r.id→ ∃x∈(chg0 r v).out,x.to=k∧x.m.kd=3∧x.m.vw=v∧x.m.fr=r.id)∧(v % r.n≠r.id→ ∃x∈(chg0 r v).out,x.to=v % r.n∧x.m.fr=r.id∧x.m.kd=4∧x.m.vw=v)∧ ∀x∈r.out,x∈(chg0 r v).out:=by
 unfold chg0 offer
 rw[snd1_eq,sndL_eq]
 refine⟨rfl,rfl,rfl,rfl,rfl,rfl,rfl,rfl,fun k hk hne=> ?_,fun hp=> ?_,fun x hx=>List.mem_append_left _ (List.mem_append_left _ hx)⟩
 ·exact⟨⟨k,{ (mKd 3:Ms O) with fr:=r.id,vw:=v}⟩,List.mem_append_left _ (List.mem_append_right _ (mem_msTo (f:=fun _ _=>mKd 3) (r:=turn r v) (List.mem_range.2 hk) hne)),rfl,rfl,rfl,rfl⟩
 ·refine⟨_,List.mem_append_right _ (mem_msTo (f:=fun _ _=>mOffer _) List.mem_cons_self hp),rfl,rfl,rfl,rfl⟩
theorem change_out {r:Rp O}{v:Nat}(hp:v % r.n≠r.id):change r v=chg0 r v:=by
 have h1:=chg0_is r v
 rw[change_is]
 unfold begin_
 rw[if_neg]
 unfold mayBegin
 rw[h1.2.2.2.2.2.2.2.1,if_neg hp]
 simp
theorem Cand.at {n:Nat}(hn:1≤n){R:Nat→Rp O}{way out:List (Sd O)}{q:Rp O}{R1:Nat→Rp O}
 (hR:R1 (V % n)=clr (begin_ q)) (hq:q.vw=V∧q.id=V % n∧q.n=n) (hnr:q.nr<V) (hown:(q.offs (V % n)).isSome=true)
 (hout: ∀x∈(begin_ q).out,x∈out) (heach:begin_ q=q→ ∀k,k<n→k≠V % n→((R1 k).vw<V∧ ∃x∈out,x.to=k∧(x.m.kd=3∨x.m.kd=4)∧x.m.vw=V)∨((R1 k).vw=V∧((∃x∈out,x.to=V % n∧x.m.fr=k∧x.m.kd=4∧x.m.vw=V)∨Off n V h R1 k))):
 Cand V n h R1 out∨Led V n R1 out:=by
 rcases begin_cases q (by rw[hq.2.2];exact hn) with⟨e,hm⟩|⟨h1,h2,h3,h4⟩
 ·refine .inl ⟨?_,fun _=> ?_,fun _=> ?_,fun k hk=> ?_⟩
  ·rw[hR,e];exact hnr
  ·rw[hR,e];exact hm
  ·rw[hR,e];exact hown
  ·by_cases ek:k=V % n
   ·exact .inr ⟨by rw[ek,hR,e];exact hq.1,fun hne=>absurd ek hne⟩
   ·rcases heach e k hk ek with a|⟨a,b⟩
    ·exact .inl a
    ·refine .inr ⟨a,fun _=> ?_⟩
     rcases b with b|b
     ·exact .inl b
     ·exact .inr ⟨by rw[hR,e];exact hq.1,b⟩
 ·refine .inr ⟨by rw[hR];exact h2.trans hq.1,by rw[hR];exact h1,fun k hk hne=> ?_⟩
  obtain⟨x,hx,x1,x2,x3⟩:=h4 k (by rw[hq.2.2];exact hk) (by rw[hq.2.1];exact hne)
  exact .inr (.inl ⟨x,hout x hx,x1,x2.trans hq.1,.inr x3⟩)
theorem Cand.notB (G:GI ok N h g)(C:Cand V g.n h g.r g.way): ¬h.B V:=fun hb=>by
 have:=G.al.core.pv V hb
 have:=C.nb
 omega
theorem Cand.st (G:GI ok N h g)(C:Cand V g.n h g.r g.way){k:Nat}(hk:k<g.n)(hv:(g.r k).vw=V):(g.r k).st=1∧(g.r k).nr<V:=by
 have h1:=G.al.core.bn k hk
 have h2:(g.r k).nr≤(g.r k).vw:=G.al.core.le k hk
 have h3:(g.r k).nr≠V:=fun e=>C.notB G (by rw[←e];exact h1)
 exact⟨(G.rep hk).st.2.2 Z18,Z18⟩
theorem Cand.kinds (G:GI ok N h g)(C:Cand V g.n h g.r g.way){x:Sd O}(hx:x∈g.way)(hv:x.m.vw=V):x.m.kd=3∨x.m.kd=6∨(x.m.kd=4∧x.to=V % g.n):=by
 rcases(G.wy x hx).kd with g1|g1|g1|g1|g1
 ·exact absurd (hv▸g1.2.2.2.2.1) (C.notB G)
 ·exact absurd (hv▸g1.2.2.2.2.2.2.1) (C.notB G)
 ·rcases g1.1 with e|e
  ·exact .inl e
  ·exact .inr (.inl e)
 ·exact .inr (.inr ⟨g1.1,by rw[←hv];exact g1.2.2.2.1⟩)
 ·exact absurd (hv▸g1.2.2.2.2.2.1) (C.notB G)
theorem prepare_vw (r:Rp O)(m:Ms O):(prepare r m).vw=r.vw:=by
 unfold prepare report
 split
 ·rw[snd1_eq];exact(prep1_same r m).1
 ·rw[snd1_eq]
theorem offerM_vw (r:Rp O)(m:Ms O):(offerM r m).vw=r.vw:=by
 unfold offerM
 split
 ·rw[begin_vw]
 ·exact Z129
theorem take_old (r:Rp O)(m:Ms O)(hv:m.vw<V):((take r m).vw<V∨(take r m).vw=r.vw)∧(r.vw=V→ ∃o,take r m= {r with out:=r.out++o}):=by
 constructor
 ·by_cases e:r.vw≤m.vw
  ·left
   have hb: ∀q:Rp O,(begin_ q).vw=q.vw:=begin_vw
   unfold take
   rw[if_neg Z18]
   split
   ·rw[prepare_vw]
    split
    ·exact hv
    ·omega
   split
   ·split
    ·omega
    ·split
     ·show r.vw<V;omega
     ·omega
   split
   ·split
    ·rw[change_vw];exact hv
    ·split
     ·rw[start_eq];show r.vw<V;omega
     ·omega
   split
   ·rw[offerM_vw]
    split
    ·rw[change_vw];exact hv
    ·omega
   split
   ·unfold begunM report
    split
    ·rw[snd1_eq];show r.vw<V;omega
    ·split
     ·omega
     ·rw[snd1_eq];exact hv
   split
   ·split
    ·omega
    ·split
     ·rw[start_eq];show r.vw<V;omega
     ·omega
   ·omega
  ·right
   unfold take
   rw[if_pos Z18]
   split
   ·rw[snd1_eq]
   ·rfl
 ·intro e
  unfold take
  rw[if_pos Z18]
  split
  ·rw[snd1_eq];exact⟨_,rfl⟩
  ·exact⟨[],by rw[List.append_nil]⟩
theorem Off.ext {n:Nat}{h':Gh O}{R R':Nat→Rp O}{k:Nat}(hk:k<n)(o:Off n V h R k)(e:Ext n h h' fun k=>(R k).vw)(hv: ∀k,k<n→(R k).vw≤(R' k).vw)(ho:((R (V % n)).offs k).isSome=true→((R' (V % n)).offs k).isSome=true)(hc:(R (V % n)).cm≤(R' (V % n)).cm):Off n V h' R' k:=by
 rcases o with o|⟨x,x1,x2⟩
 ·exact .inl (ho o)
 ·exact .inr ⟨x,x1.ext e hk (hv k hk),Z18⟩
theorem offer_short (G:GI ok N h g){x:Sd O}(hx:x∈g.way)(hk:x.m.kd=4)(hv:x.m.vw=V):OF g.n h (fun k=>(g.r k).vw) V x.m.fr ⟨x.m.nr,x.m.ao,x.m.cm,x.m.ops⟩∧ ∀i,i<g.n→x.m.ao≤(g.r i).ls:=by
 rcases(G.wy x hx).kd with g1|g1|g1|g1|g1
 ·have:=g1.1;omega
 ·have:=g1.1;omega
 ·have:=g1.1;omega
 ·exact⟨hv▸g1.2.2.2.2,fun i hi=>G.al.core.stab_ls hi g1.2.2.2.2.ao⟩
 ·have:=g1.1;omega
theorem Cand.end (G:GI ok N h g)(C:Cand V g.n h g.r g.way)(hw:g.way= []):False:=by
 have hPn:V % g.n<g.n:=Nat.mod_lt _ G.n1
 have hall: ∀k,k<g.n→(g.r k).vw=V∧(k≠V % g.n→(g.r (V % g.n)).vw=V∧Off g.n V h g.r k):=fun k hk=>by
  rcases C.each k hk with⟨_,x,hx,_⟩|⟨a,b⟩
  ·rw[hw] at hx;cases hx
  ·refine⟨a,fun hne=> ?_⟩
   rcases b hne with⟨x,hx,_⟩|b
   ·rw[hw] at hx;cases hx
   ·exact b
 have hP:=(hall _ hPn).1
 obtain⟨u,hu,hc⟩:=(G.rep hPn).cm
 have hnm:=C.nm hP
 have hst:=(C.st G hPn hP).1
 have hsome: ∀k,k<g.n→decide ((g.r (V % g.n)).cm≤h.A u k)=true→((g.r (V % g.n)).offs k).isSome=true:=fun k hk hd=>by
  by_cases e:k=V % g.n
  ·rw[e];exact C.own hP
  ·rcases((hall k hk).2 e).2 with o|⟨o,o1,o2⟩
   ·exact o
   ·exfalso
    simp only[decide_eq_true_eq] at hd
    have hVu:u<V:=Nat.lt_of_le_of_lt hu C.nb
    obtain⟨f1,f2⟩:=o1.fz u hVu Z18
    rcases Nat.lt_or_ge u o.nr with h1|h1
    ·have h2:=(G.al.core.safe o.nr u _ h1 o1.b hc).1
     have h3:=o1.i
     omega
    ·have h2:=f2 Z18
     omega
 have hlen:g.n/2+1≤(offL (g.r (V % g.n))).length:=by
  refine Nat.le_trans hc.2 ?_
  unfold offL
  rw[(G.rep hPn).nn]
  have aux: ∀l:List Nat,(∀k∈l,k<g.n)→l.countP (fun k=>decide ((g.r (V % g.n)).cm≤h.A u k))≤(l.filterMap (g.r (V % g.n)).offs).length:=by
   intro l
   induction l with
   |nil=>intro _;simp
   |cons a l ih=>
    intro hl
    have h1:=ih fun k hk=>hl k (List.mem_cons_of_mem _ hk)
    rw[List.countP_cons,List.filterMap_cons]
    by_cases hd:decide ((g.r (V % g.n)).cm≤h.A u a)=true
    ·obtain⟨o,ho⟩:=Option.isSome_iff_exists.1 (hsome a (hl a List.mem_cons_self) hd)
     rw[if_pos hd,ho]
     simp only[List.length_cons]
     omega
    ·rw[if_neg hd]
     cases(g.r (V % g.n)).offs a with
     |none=>simpa using h1
     |some o=>simp only[List.length_cons];omega
  exact aux _ fun k hk=>List.mem_range.1 hk
 unfold mayBegin at hnm
 rw[(G.rep hPn).id,C.own hP,hst,(G.rep hPn).nn] at hnm
 simp at hnm
 omega
end Go.Proofs.YtdmjegelcdghlaaGreat.Vw
