/-
  Chapter 22, plain: a view that all have: a round makes all logs one, and what is in them sure.
-/
import Derived.Test.YtdmjegelcdghlaaGreatGIn
set_option maxRecDepth 100000
set_option maxHeartbeats 64000000
set_option linter.unusedVariables false
set_option linter.unusedSimpArgs false
namespace Go.Proofs.YtdmjegelcdghlaaGreat
theorem Z116 {p:Prop}(h:p:=by
 rcases a5 with⟨y,y1,y2,y3⟩|a5
 ·exact .inl ⟨y,stay y y1 (fun e3=>hP (by rw[←y2,e3])),y2,y3⟩
 ·exact .inr a5):p:=h
end Go.Proofs.YtdmjegelcdghlaaGreat
namespace Go.Proofs.YtdmjegelcdghlaaGreat.Vw
variable {O:Type}
variable {N:Nat} {ok:O→Bool} {h h':Gh O} {g:Gp O} {V:Nat}
def Ct (r:Rp O):Prop:=leads r=true→rch (r.hv.set r.id r.ls) r.n r.ls≤r.cm∧min (stb (r.hv.set r.id r.ls) r.n r.ls) r.cm≤r.sb
theorem Ct.st {r:Rp O}(hs:r.st≠0):Ct r:=fun hl=>absurd (leads_st hl) hs
theorem Ct.not {r:Rp O}(hp:r.vw % r.n≠r.id):Ct r:=fun hl=>by rw[leads_no hp] at hl;cases hl
theorem Ct.count (r:Rp O):Ct (Vw.count r):=fun _=>by
 have e:((Vw.count r).hv.set (Vw.count r).id (Vw.count r).ls)=r.hv.set r.id r.ls:=by
  show(r.hv.set r.id r.ls).set r.id r.ls=_
  rw[List.set_set]
 rw[e]
 exact⟨Nat.le_max_right _ _,Nat.le_max_right _ _⟩
theorem Ct.out {r:Rp O}(h:Ct r)(o:List (Sd O)):Ct {r with out:=o}:=h
theorem Ct.begin_ {r:Rp O}(h:Ct r):Ct (begin_ r):=by
 unfold Vw.begin_
 split
 ·split
  ·exact h
  ·exact Ct.count _
 ·exact h
theorem Ct.change (r:Rp O)(v:Nat):Ct (change r v):=by
 rw[change_is]
 exact Ct.begin_ (Ct.st (by rw[(chg0_is r v).2.2.2.2.2.1];omega))
theorem Ct.offerM {r:Rp O}(h:Ct r)(m:Ms O):Ct (offerM r m):=by
 unfold Vw.offerM
 split
 ·exact Ct.begin_ (r:= {r with offs:=_}) h
 ·split
  ·rw[start_eq];exact h
  ·exact h
theorem Ct.take {r:Rp O}{m:Ms O}(h:Ct r)(hnv:r.nr≤r.vw)(hm:m.kd=1∨m.kd=5→m.fr≠r.id∧m.fr=m.vw % r.n):Ct (take r m):=by
 unfold Vw.take
 split
 ·split
  ·rw[snd1_eq];exact h
  ·exact h
 rename_i hv
 split
 ·rename_i hk
  obtain⟨h1,h2⟩:=hm (.inl hk)
  have hp: ∀q:Rp O,q.vw=m.vw→q.n=r.n→q.id=r.id→Ct q→Ct (prepare q m):=fun q e1 e2 e3 hq=>by
   unfold prepare report
   split
   ·rw[snd1_eq]
    refine Ct.out (Ct.not ?_) _
    have e4:=(prep1_same q m).1
    have e5:(prep1 q m).n=q.n∧(prep1 q m).id=q.id:=by unfold prep1;dsimp only;split<;>exact⟨rfl,rfl⟩
    show(prep1 q m).vw %(prep1 q m).n≠(prep1 q m).id
    rw[e4,e5.1,e5.2,e1,e2,e3,←h2];exact h1
   ·rw[snd1_eq];exact hq
  split
  ·exact hp (turn r m.vw) rfl rfl rfl (Ct.st (by show(1:Nat)≠0;omega))
  ·exact hp r Z18 rfl rfl h
 split
 ·split
  ·exact h
  ·split
   ·exact Ct.count _
   ·exact h
 split
 ·split
  ·exact Ct.change _ _
  ·split
   ·rw[start_eq];exact h
   ·exact h
 split
 ·split
  ·exact(Ct.change _ _).offerM m
  ·exact h.offerM m
 split
 ·rename_i hk
  obtain⟨h1,h2⟩:=hm (.inr hk)
  unfold begunM report
  split
  ·rename_i e
   rw[snd1_eq]
   refine Ct.out (Ct.not ?_) _
   show r.vw % r.n≠r.id
   rw[show r.vw=m.vw by omega,←h2];exact h1
  ·split
   ·exact h
   ·rw[snd1_eq]
    refine Ct.out (Ct.not ?_) _
    show m.vw % r.n≠r.id
    rw[←h2];exact h1
 split
 ·split
  ·exact h
  ·split
   ·rw[start_eq];exact h
   ·exact h
 ·exact h
theorem Ct.tick {r:Rp O}(h:Ct r):Ct (tick r):=by
 rcases tick_cases r with⟨_,e⟩|⟨_,_,_,e⟩|⟨_,_,o,e,_⟩
 ·rw[e,tell_eq];exact h
 ·rw[e];exact Ct.change _ _
 ·rw[e];exact h
theorem Ct.ask (r:Rp O)(o:O):Ct (ask r o):=by
 unfold Vw.ask
 rw[tell_eq]
 exact Ct.out (Ct.count _) _
structure Aft (g:Gp O):Prop where
 ct: ∀k,k<g.n→Ct (g.r k)
 td: ∀k,k<g.n→(g.r k).td=(g.r k).cm
 bs: ∀k,k<g.n→(g.r k).sb≤(g.r k).bs
theorem clr_bs (r:Rp O)(hs:r.sb≤r.cm):(clr r).sb≤(clr r).bs:=by
 show r.sb≤if r.bs<min r.sb r.cm then min r.sb r.cm else r.bs
 split<;>omega
theorem Aft.put {g g':Gp O}(A:Aft g)(hn:g'.n=g.n){i:Nat}{r:Rp O}(hr:g'.r=upd g.r i (clr r))(hc:Ct r)(hs:r.sb≤r.cm):Aft g':=by
 refine⟨fun k hk=> ?_,fun k hk=> ?_,fun k hk=> ?_⟩
 all_goals rw[hr]
 all_goals by_cases e:k=i
 ·rw[e,upd_same];exact hc
 ·rw[upd_ne _ _ e];exact A.ct k (hn▸hk)
 ·rw[e,upd_same];rfl
 ·rw[upd_ne _ _ e];exact A.td k (hn▸hk)
 ·rw[e,upd_same];exact clr_bs r hs
 ·rw[upd_ne _ _ e];exact A.bs k (hn▸hk)
theorem GI.sbcm (G':GI ok N h g){i:Nat}(hi:i<g.n){r:Rp O}(hr:g.r i=clr r):r.sb≤r.cm:=by
 have:=(G'.rep hi).od.2.2.2
 rw[hr] at this
 exact this
theorem Aft.take (A:Aft g)(G:GI ok N h g){x:Sd O}{l:List (Sd O)}(hw:g.way=x::l)(G':GI ok N h' (evTake g 0 x)):Aft (evTake g 0 x):=by
 have hx:x∈g.way:=by rw[hw];exact List.mem_cons_self
 have X:=G.wy x hx
 refine A.put rfl (evTake_r g 0 x) ((A.ct x.to X.to).take (G.al.core.le x.to X.to) fun hk=>⟨?_,?_⟩) (G'.sbcm (i:=x.to) X.to (by rw[evTake_r,upd_same]))
 ·rw[(G.rep X.to).id];exact X.ne
 ·rw[(G.rep X.to).nn]
  exact Z56
theorem Aft.tick (A:Aft g){i:Nat}(hi:i<g.n)(G':GI ok N h' (evTick g i)):Aft (evTick g i):=
 A.put rfl (evTick_r g i) (A.ct i hi).tick (G'.sbcm (i:=i) hi (by rw[evTick_r,upd_same]))
theorem Aft.round (hN:N≤TM)(A:Aft g)(G:GI ok N h g):Aft (round g):=by
 obtain⟨h1,G1,_,A1⟩:=tickTo_ind hN (fun _ _ g1=>Aft g1) (fun i h h' g hi G A G' E=>A.tick hi G') h g G A g.n (Nat.le_refl _)
 obtain⟨_,_,_,A2⟩:=drain_ind hN (fun _ g1=>Aft g1) (fun h h' g x l G A hw G' E=>A.take G hw G') 30000 h1 _ G1 A1
 exact A2
theorem Aft.zero (n:Nat):Aft (gp0 n:Gp O):=by
 refine⟨fun k hk _=>⟨?_,?_⟩,fun _ _=>rfl,fun _ _=>Nat.le_refl _⟩
 ·exact Nat.le_of_eq rfl
 ·exact Nat.min_le_right _ _
theorem most_all (l:List Nat)(n many b:Nat)(hm:many≤n)(hall: ∀k,k<n→b≤l.getD k 0):most l n many b=b:=by
 cases b with
 |zero=>rfl
 |succ b=>
  unfold most
  rw[if_pos]
  unfold hasN
  rw[List.countP_eq_length.2 fun k hk=>by simpa using hall k (List.mem_range.1 hk),List.length_range]
  exact hm
theorem Ct.all {r:Rp O}(h:Ct r)(hl:leads r=true)(hn:1≤r.n)(hlen:r.hv.length=r.n)(hid:r.id<r.n)(hcl:r.cm≤r.ls)(hall: ∀k,k<r.n→k≠r.id→r.ls≤r.hv.getD k 0):r.cm=r.ls∧r.ls≤r.sb:=by
 have h1: ∀k,k<r.n→r.ls≤(r.hv.set r.id r.ls).getD k 0:=fun k hk=>by
  rw[List.getD_eq_getElem?_getD,List.getElem?_set]
  by_cases e:r.id=k
  ·rw[if_pos e,if_pos Z18];exact Nat.le_refl _
  ·rw[if_neg e,←List.getD_eq_getElem?_getD];exact hall k hk (Ne.symm e)
 obtain⟨h2,h3⟩:=h hl
 have e1:rch (r.hv.set r.id r.ls) r.n r.ls=r.ls:=most_all _ _ _ _ Z18 h1
 have e2:stb (r.hv.set r.id r.ls) r.n r.ls=r.ls:=most_all _ _ _ _ (Nat.le_refl _) h1
 rw[e1] at h2
 rw[e2] at h3
 omega
theorem dnw_take {r:Rp O}{m:Ms O}{V:Nat}(hv:r.vw=V)(hd:r.nr=V∧r.st=0)(hp:r.vw % r.n≠r.id)(hm:m.vw≤V):((take r m).nr=V∧(take r m).st=0)∧(r.idle=0→(take r m).idle=0)∧r.ls≤(take r m).ls∧r.cm≤(take r m).cm∧r.sb≤(take r m).sb:=by
 have hl:=leads_no hp
 have hrefl:(r.nr=V∧r.st=0)∧(r.idle=0→r.idle=0)∧r.ls≤r.ls∧r.cm≤r.cm∧r.sb≤r.sb:=⟨hd,fun e=>e,Nat.le_refl _,Nat.le_refl _,Nat.le_refl _⟩
 unfold take
 split
 ·exact Z115
 rename_i hnv
 have hmv:m.vw=V:=by omega
 split
 ·rw[if_neg Z18]
  unfold prepare report
  rw[if_pos (hd.1.trans hv.symm),snd1_eq]
  have h1:(prep1 r m).nr=r.nr∧(prep1 r m).st=0∧(prep1 r m).idle=0∧r.ls≤(prep1 r m).ls∧(prep1 r m).cm=r.cm∧(prep1 r m).sb=r.sb:=by
   unfold prep1
   dsimp only
   split
   ·rename_i h2
    exact⟨rfl,rfl,rfl,Nat.le_of_lt h2.2,rfl,rfl⟩
   ·exact⟨rfl,rfl,rfl,Nat.le_refl _,rfl,rfl⟩
  exact⟨⟨h1.1.trans hd.1,h1.2.1⟩,fun _=>h1.2.2.1,h1.2.2.2.1,by show _≤max (prep1 r m).cm _;rw[h1.2.2.2.2.1];exact Nat.le_max_left _ _,by show _≤max (prep1 r m).sb _;rw[h1.2.2.2.2.2];exact Nat.le_max_left _ _⟩
 split
 ·exact Z223
 split
 ·exact Z223
 split
 ·rw[if_neg Z18]
  unfold offerM
  rw[if_neg (by rw[hd.2];omega),hl];exact hrefl
 split
 ·unfold begunM report
  rw[if_pos (hd.1.trans hmv.symm),snd1_eq]
  exact⟨⟨hd.1,rfl⟩,fun _=>rfl,Nat.le_refl _,Nat.le_refl _,Nat.le_refl _⟩
 split
 ·exact Z223
 ·exact hrefl
def Pd (V n L c:Nat)(r:Nat→Rp O)(way:List (Sd O))(k:Nat):Prop:=
 (∃x∈way,x.to=k∧x.m.vw=V∧x.m.kd=1∧x.m.ao+x.m.ops.length=L∧x.m.ao≤(r k).ls∧c≤x.m.cm∧c≤x.m.sb)∨
 ((r k).idle=0∧(r k).ls=L∧c≤(r k).cm∧c≤(r k).sb∧((∃x∈way,x.to=V % n∧x.m.fr=k∧x.m.vw=V∧x.m.kd=2∧L≤x.m.ls)∨L≤(r (V % n)).hv.getD k 0))
structure SD (V L c:Nat)(g:Gp O):Prop where
 top:Top V g
 ld:LeadX V g.n g.r
 ls:(g.r (V % g.n)).ls=L
 dn: ∀k,k<g.n→k≠V % g.n→(g.r k).nr=V∧(g.r k).st=0
 cc:c≤L
 pd: ∀k,k<g.n→k≠V % g.n→Pd V g.n L c g.r g.way k
theorem ls_le (G:GI ok N h g)(ld:LeadX V g.n g.r){k:Nat}(hk:k<g.n)(hd:(g.r k).nr=V):(g.r k).ls≤(g.r (V % g.n)).ls:=by
 have hPn:V % g.n<g.n:=Nat.mod_lt _ G.n1
 have h1:=G.al.leads_nr hPn (leads_yes (by rw[ld.1,(G.rep hPn).nn,(G.rep hPn).id]) ld.2)
 have h2:=(G.al.core.li k hk).2
 rw[h1.2.2.2,ld.1]
 show(g.r k).ls≤_
 rw[hd] at h2
 exact h2
theorem SD.take {L c:Nat}(G:GI ok N h g)(S:SD V L c g){x:Sd O}{l:List (Sd O)}(hw:g.way=x::l)(G':GI ok N h' (evTake g 0 x)):SD V L c (evTake g 0 x):=by
 have hx:x∈g.way:=by rw[hw];exact List.mem_cons_self
 have X:=G.wy x hx
 have hmv:=G.msv S.top hx
 have hPn:V % g.n<g.n:=Nat.mod_lt _ G.n1
 have stay: ∀y∈g.way,y≠x→y∈l++(Vw.take (g.r x.to) x.m).out:=fun y hy hne=>by
  exact Z74
 have rP:=G.rep hPn
 have hT:=take_top G S.top hw
 have hle':LeadX V g.n (evTake g 0 x).r→ ∀k,k<g.n→((evTake g 0 x).r k).nr=V→((evTake g 0 x).r k).ls≤((evTake g 0 x).r (V % g.n)).ls:=fun ld k hk hd=>ls_le (g:=evTake g 0 x) G' ld hk hd
 by_cases hP:x.to=V % g.n
 ·have hpv:(g.r x.to).vw=V:=by rw[hP];exact S.ld.1
  have hps:(g.r x.to).st=0:=by rw[hP];exact S.ld.2
  have hid:(g.r x.to).vw %(g.r x.to).n=(g.r x.to).id:=by rw[hpv,hP,rP.nn,rP.id]
  have h1:=lead_take (m:=x.m) hps hid (by rw[hpv];exact hmv) (fun e=>X.notP (by rw[e,hpv];exact hP))
  refine⟨hT,?_,?_,fun k hk hne=> ?_,S.cc,fun k hk hne=> ?_⟩
  ·unfold LeadX
   show((evTake g 0 x).r (V % g.n)).vw=V∧((evTake g 0 x).r (V % g.n)).st=0
   rw[evTake_r,←hP,upd_same]
   exact⟨h1.1.trans hpv,h1.2.1⟩
  ·show((evTake g 0 x).r (V % g.n)).ls=L
   rw[evTake_r,←hP,upd_same]
   exact h1.2.2.1.trans (by rw[hP];exact S.ls)
  ·rw[evTake_r,upd_ne _ _ (by rw[hP];exact hne)]
   exact S.dn k hk hne
  ·show Pd V g.n L c (evTake g 0 x).r (evTake g 0 x).way k
   rw[evTake_r,evTake_way hw]
   unfold Pd
   rw[upd_ne _ _ (show k≠x.to by rw[hP];exact hne)]
   rcases S.pd k hk hne with⟨y,y1,y2,y3⟩|⟨a1,a2,a3,a4,a5⟩
   ·exact .inl ⟨y,stay y y1 (fun e=>hne (by rw[←y2,e];exact hP)),y2,y3⟩
   ·refine .inr ⟨a1,a2,a3,a4,?_⟩
    rw[←hP,upd_same]
    show _∨L≤(Vw.take (g.r x.to) x.m).hv.getD k 0
    rcases a5 with⟨y,y1,y2,y3,y4,y5,y6⟩|a5
    ·by_cases e:y=x
     ·right
      subst e
      have hgo:Vw.take (g.r y.to) y.m=haveM (g.r y.to) y.m:=by
       unfold Vw.take
       rw[if_neg Z18,if_neg Z18,if_pos y5,if_neg Z18,leads_yes hid hps,if_pos rfl]
      rw[hgo]
      show L≤(((g.r y.to).hv.set y.m.fr (max ((g.r y.to).hv.getD y.m.fr 0) (min y.m.ls (g.r y.to).ls))).set (g.r y.to).id (g.r y.to).ls).getD k 0
      have h2:(g.r y.to).ls=L:=by rw[hP];exact S.ls
      have h3:(g.r y.to).hv.length=g.n:=(G.rep X.to).hl
      rw[y3,List.getD_eq_getElem?_getD,List.getElem?_set,if_neg (by rw[(G.rep X.to).id,hP];exact Ne.symm hne),List.getElem?_set,if_pos rfl,if_pos (show k<(g.r y.to).hv.length by rw[h3];exact hk)]
      show L≤max _ (min y.m.ls (g.r y.to).ls)
      omega
     ·left
      exact⟨y,stay y y1 e,y2.trans hP.symm,y3,y4,y5,y6⟩
    ·right
     rw[←hP] at a5
     exact Nat.le_trans a5 (h1.2.2.2.2.2 k (by rw[(G.rep X.to).id,hP];exact hne))
 ·have hi:=X.to
  have ri:=G.rep hi
  have hdi:=S.dn x.to hi hP
  have hvi:(g.r x.to).vw=V:=by
   have h1:(g.r x.to).nr≤(g.r x.to).vw:=G.al.core.le x.to hi
   have h2:=S.top x.to hi
   omega
  have h1:=dnw_take (m:=x.m) hvi hdi (by rw[hvi,ri.nn,ri.id];exact Ne.symm hP) hmv
  have hld:LeadX V g.n (evTake g 0 x).r:=by
   unfold LeadX
   rw[evTake_r,upd_ne _ _ (Ne.symm hP)]
   exact S.ld
  have hPls:((evTake g 0 x).r (V % g.n)).ls=L:=by
   rw[evTake_r,upd_ne _ _ (Ne.symm hP)];exact S.ls
  have hlsi:(Vw.take (g.r x.to) x.m).ls≤L:=by
   have h2:=hle' hld x.to hi (by rw[evTake_r,upd_same];exact h1.1.1)
   rw[hPls,evTake_r,upd_same] at h2
   exact h2
  refine⟨hT,hld,hPls,fun k hk hne=> ?_,S.cc,fun k hk hne=> ?_⟩
  ·rw[evTake_r]
   by_cases e:k=x.to
   ·rw[e,upd_same];exact h1.1
   ·rw[upd_ne _ _ e];exact S.dn k hk hne
  ·show Pd V g.n L c (evTake g 0 x).r (evTake g 0 x).way k
   rw[evTake_r,evTake_way hw]
   unfold Pd
   rw[upd_ne _ _ (show V % g.n≠x.to from Ne.symm hP)]
   by_cases e:k=x.to
   ·rw[e,upd_same]
    show(∃y∈l++(Vw.take (g.r x.to) x.m).out,y.to=x.to∧y.m.vw=V∧y.m.kd=1∧y.m.ao+y.m.ops.length=L∧y.m.ao≤(Vw.take (g.r x.to) x.m).ls∧c≤y.m.cm∧c≤y.m.sb)∨((Vw.take (g.r x.to) x.m).idle=0∧(Vw.take (g.r x.to) x.m).ls=L∧c≤(Vw.take (g.r x.to) x.m).cm∧c≤(Vw.take (g.r x.to) x.m).sb∧_)
    rcases S.pd k hk hne with⟨y,y1,y2,y3,y4,y5,y6,y7,y8⟩|⟨a1,a2,a3,a4,a5⟩
    ·by_cases e2:y=x
     ·
       right
       subst e2
       rw[e] at y6
       have hfr:y.m.fr=V % g.n:=by
        rcases X.kd with g1|g1|g1|g1|g1
        ·rw[←y3];exact g1.2.2.2.1
        ·have:=g1.1;omega
        ·have:=g1.1;omega
        ·have:=g1.1;omega
        ·have:=g1.1;omega
       have hgo:Vw.take (g.r y.to) y.m=report (prep2 (prep1 (g.r y.to) y.m) y.m) y.m.fr:=by
        unfold Vw.take
        rw[if_neg Z18,if_pos y4,if_neg (show¬(g.r y.to).vw<y.m.vw by omega)]
        unfold prepare
        rw[if_pos (hdi.1.trans hvi.symm)]
       have hls1:(prep1 (g.r y.to) y.m).ls=L:=by
        have h2:(Vw.take (g.r y.to) y.m).ls=(prep1 (g.r y.to) y.m).ls:=by
         rw[hgo];unfold report;rw[snd1_eq];rfl
        have h3:L≤(prep1 (g.r y.to) y.m).ls:=by
         unfold prep1
         dsimp only
         split
         ·show L≤y.m.ao+y.m.ops.length;omega
         ·rename_i hc
          show L≤(g.r y.to).ls
          have hc': ¬(y.m.ao≤(g.r y.to).ls∧(g.r y.to).ls<y.m.ao+y.m.ops.length):=hc
          omega
        omega
       have hcm1:(prep1 (g.r y.to) y.m).cm=(g.r y.to).cm∧(prep1 (g.r y.to) y.m).idle=0∧(prep1 (g.r y.to) y.m).id=y.to∧(prep1 (g.r y.to) y.m).vw=V:=by
        refine⟨?_,?_,?_,(prep1_same _ _).1.trans hvi⟩
        ·exact Z121
        ·exact Z121
        ·unfold prep1;dsimp only;split<;>exact ri.id
       rw[hgo]
       unfold report
       rw[snd1_eq]
       refine⟨hcm1.2.1,hls1,?_,?_,.inl ⟨⟨y.m.fr,{mHave (prep2 (prep1 (g.r y.to) y.m) y.m) with fr:=(prep2 (prep1 (g.r y.to) y.m) y.m).id,vw:=(prep2 (prep1 (g.r y.to) y.m) y.m).vw}⟩,List.mem_append_right _ (List.mem_append_right _ (mem_msTo (f:=fun _ _=>mHave (prep2 (prep1 (g.r y.to) y.m) y.m)) List.mem_cons_self ?_)),hfr,hcm1.2.2.1,hcm1.2.2.2,rfl,?_⟩⟩
       ·show c≤max (prep1 (g.r y.to) y.m).cm (min y.m.cm (prep1 (g.r y.to) y.m).ls)
        have:=S.cc
        omega
       ·show c≤max (prep1 (g.r y.to) y.m).sb (min y.m.sb (max (prep1 (g.r y.to) y.m).cm (min y.m.cm (prep1 (g.r y.to) y.m).ls)))
        have:=S.cc
        omega
       ·show y.m.fr≠(prep1 (g.r y.to) y.m).id
        rw[hcm1.2.2.1];exact X.ne
       ·show L≤(prep1 (g.r y.to) y.m).ls
        omega
     ·rw[e] at y6
      exact .inl ⟨y,stay y y1 e2,y2.trans e,y3,y4,y5,Nat.le_trans y6 h1.2.2.1,y7,y8⟩
    ·rw[e] at a1 a2 a3 a4 a5
     right
     refine⟨h1.2.1 a1,by have:=h1.2.2.1;omega,Nat.le_trans a3 h1.2.2.2.1,Nat.le_trans a4 h1.2.2.2.2,?_⟩
     exact Z116
   ·rw[upd_ne _ _ e]
    rcases S.pd k hk hne with⟨y,y1,y2,y3⟩|⟨a1,a2,a3,a4,a5⟩
    ·exact .inl ⟨y,stay y y1 (fun e3=>e (by rw[←y2,e3])),y2,y3⟩
    ·refine .inr ⟨a1,a2,a3,a4,?_⟩
     exact Z116
end Go.Proofs.YtdmjegelcdghlaaGreat.Vw
namespace Go.Proofs.YtdmjegelcdghlaaGreat
theorem Z40 {p:Prop}(h:p:=by decide):p:=h
end Go.Proofs.YtdmjegelcdghlaaGreat
namespace Go.Proofs.YtdmjegelcdghlaaGreat.Vw
variable {O:Type}
variable {N:Nat} {ok:O→Bool} {h h':Gh O} {g:Gp O} {V:Nat}
structure SF (V L c:Nat)(g:Gp O):Prop where
 d:D V g
 lp:(g.r (V % g.n)).ls=L
 all: ∀k,k<g.n→(g.r k).ls=L∧c≤(g.r k).cm∧c≤(g.r k).sb
 cp:L≤(g.r (V % g.n)).cm∧L≤(g.r (V % g.n)).sb
theorem stage (hN:N≤TM)(G:GI ok N h g)(hn:g.n≤5)(S:D V g)(A:Aft g)(hp:phi V g≤29000){c:Nat}(hc:c≤(g.r (V % g.n)).cm∧c≤(g.r (V % g.n)).sb):(round g).way= []∧SF V (g.r (V % g.n)).ls c (round g):=by
 obtain⟨hend,_⟩:=round_end hN G hn S.1 hp
 refine⟨hend,?_⟩
 have hPn:V % g.n<g.n:=Nat.mod_lt _ G.n1
 have hcl:c≤(g.r (V % g.n)).ls:=Nat.le_trans hc.1 (G.rep hPn).od.2.2.1
 obtain⟨L,hL⟩: ∃L,L=(g.r (V % g.n)).ls:=⟨_,rfl⟩
 rw[←hL] at hcl⊢
 have hA:=A.round hN G
 obtain⟨h1,G1,E1,p0,q1,q2,q3,q4,q5,q6⟩:=tickTo_ind hN (fun i h1 g1=>g1.n=g.n∧(∀k,i≤k→g1.r k=g.r k)∧Top V g1∧LeadX V g.n g1.r∧(∀k,k<g.n→k≠V % g.n→(g1.r k).nr=V∧(g1.r k).st=0)∧((g1.r (V % g.n)).ls=L∧c≤(g1.r (V % g.n)).cm∧c≤(g1.r (V % g.n)).sb)∧
  (V % g.n<i→ ∀k,k<g.n→k≠V % g.n→ ∃x∈g1.way,x.to=k∧x.m.vw=V∧x.m.kd=1∧x.m.ao+x.m.ops.length=L∧x.m.ao≤(g1.r k).ls∧c≤x.m.cm∧c≤x.m.sb)) (by
  rintro i h1 h2 g1 hi G1 ⟨hgn,u,T,ld,dn,lp,pd⟩ G2 E2
  have hW: ∀y∈g1.way,y∈(evTick g1 i).way:=fun y hy=>by rw[evTick_way];exact List.mem_append_left _ hy
  have ri:=G1.rep hi
  by_cases e:V % g.n=i
  ·
    have hvi:(g1.r i).vw=V:=by rw[←e];exact ld.1
    have hlead:leads (g1.r i)=true:=leads_yes (by rw[hvi,ri.nn,ri.id,hgn];exact e) (by rw[←e];exact ld.2)
    have hgo:Vw.tick (g1.r i)=tell (g1.r i):=by unfold Vw.tick;rw[if_pos hlead]
    refine⟨hgn,fun k hk=> ?_,fun k hk=> ?_,?_,fun k hk hne=> ?_,?_,fun _ k hk hne=> ?_⟩
    ·rw[evTick_r,upd_ne _ _ Z18];exact u k Z18
    ·rw[evTick_r,hgo,tell_eq]
     by_cases e2:k=i
     ·rw[e2,upd_same];exact T i hi
     ·rw[upd_ne _ _ e2];exact T k hk
    ·unfold LeadX
     rw[evTick_r,hgo,tell_eq,e,upd_same]
     rw[←e];exact ld
    ·rw[evTick_r,upd_ne _ _ Z18];exact dn k hk hne
    ·rw[evTick_r,hgo,tell_eq,e,upd_same]
     rw[←e];exact lp
    ·have hkn:k<g1.n:=by omega
     have hdk:=dn k hk hne
     refine⟨⟨k,{mPrep (g1.r i) k with fr:=(g1.r i).id,vw:=(g1.r i).vw}⟩,?_,rfl,hvi,rfl,?_,?_,?_,?_⟩
     ·rw[evTick_way,hgo,tell_eq]
      exact List.mem_append_right _ (List.mem_append_right _ (mem_msTo (List.mem_range.2 (by rw[ri.nn];exact hkn)) (by rw[ri.id];omega)))
     ·show max (g1.r i).bs ((g1.r i).hv.getD k 0)+((g1.r i).log.drop (max (g1.r i).bs ((g1.r i).hv.getD k 0)-(g1.r i).bs)).length=L
      have h3:=G1.al.hb hi hlead k hkn
      have h4:=ri.ls
      have h5:(g1.r i).ls=L:=by rw[←e];exact lp.1
      rw[List.length_drop]
      omega
     ·show max (g1.r i).bs ((g1.r i).hv.getD k 0)≤((evTick g1 i).r k).ls
      rw[evTick_r,upd_ne _ _ Z18]
      have h3:(g1.r i).bs≤(g1.r k).ls:=G1.al.core.stab_ls hkn ri.bs
      have h4:=ri.hv (by rw[←e];exact ld.2) (by rw[hvi,hgn];exact e) k hkn
      have h5:=G1.al.core.al k hkn
      have h6:h1.A (g1.r k).nr k=(g1.r k).ls:=h5
      rw[hdk.1,←hvi] at h6
      omega
     ·show c≤(g1.r i).cm
      rw[←e];exact lp.2.1
     ·show c≤(g1.r i).sb
      rw[←e];exact lp.2.2
  ·
    have hik:i<g.n:=by omega
    have hdi:=dn i hik (Ne.symm e)
    have hvi:(g1.r i).vw=V:=by
     have h3:(g1.r i).nr≤(g1.r i).vw:=G1.al.core.le i hi
     have h4:=T i hi
     omega
    have hid0:(g1.r i).idle=0:=by rw[u i (Nat.le_refl _)];exact(S.2.2 i hik (Ne.symm e)).2.2
    have hgo: ∃o,Vw.tick (g1.r i)= {g1.r i with idle:=(g1.r i).idle+1,out:=o}:=by
     rcases tick_cases (g1.r i) with⟨a,_⟩|⟨_,a,_,_⟩|⟨_,_,o,a,_⟩
     ·rw[leads_no (by rw[hvi,ri.nn,ri.id,hgn];exact e)] at a;cases a
     ·omega
     ·exact⟨o,a⟩
    obtain⟨o,hgo⟩:=hgo
    refine⟨hgn,fun k hk=> ?_,fun k hk=> ?_,?_,fun k hk hne=> ?_,?_,fun hlt k hk hne=> ?_⟩
    ·rw[evTick_r,upd_ne _ _ Z18];exact u k Z18
    ·rw[evTick_r,hgo]
     by_cases e2:k=i
     ·rw[e2,upd_same];exact T i hi
     ·rw[upd_ne _ _ e2];exact T k hk
    ·unfold LeadX
     rw[evTick_r,upd_ne _ _ e];exact ld
    ·rw[evTick_r,hgo]
     by_cases e2:k=i
     ·rw[e2,upd_same];exact hdi
     ·rw[upd_ne _ _ e2];exact dn k hk hne
    ·rw[evTick_r,upd_ne _ _ e];exact lp
    ·obtain⟨x,x1,x2,x3,x4,x5,x6,x7⟩:=pd Z18 k hk hne
     refine⟨x,hW x x1,x2,x3,x4,x5,?_,x7⟩
     rw[evTick_r,hgo]
     by_cases e2:k=i
     ·rw[e2,upd_same];rw[e2] at x6;exact x6
     ·rw[upd_ne _ _ e2];exact x6) h g G ⟨rfl,fun _ _=>rfl,S.1,S.2.1,fun k hk hne=>⟨(S.2.2 k hk hne).1,(S.2.2 k hk hne).2.1⟩,⟨hL.symm,hc⟩,fun h0=>absurd h0 (Nat.not_lt_zero _)⟩ g.n (Nat.le_refl _)
 have SD0:SD V L c (tickTo g.n g):=by
  refine⟨q2,?_,?_,fun k hk hne=> ?_,hcl,fun k hk hne=> .inl ?_⟩
  ·rw[show(tickTo g.n g).n=g.n from tickTo_n _ _];exact q3
  ·rw[show(tickTo g.n g).n=g.n from tickTo_n _ _];exact q5.1
  ·rw[show(tickTo g.n g).n=g.n from tickTo_n _ _] at hk hne;exact q4 k hk hne
  ·rw[show(tickTo g.n g).n=g.n from tickTo_n _ _] at hk hne;exact q6 hPn k hk hne
 obtain⟨h2,G2,_,SD1⟩:=drain_ind hN (fun _ g1=>SD V L c g1) (fun h h' g x l G S hw G' E=>S.take G hw G') 30000 h1 _ G1 SD0
 have SD2:SD V L c (round g):=SD1
 have G3:GI ok N h2 (round g):=G2
 have hrn:=round_n g
 have hPn2:V %(round g).n<(round g).n:=Nat.mod_lt _ G3.n1
 have hpd: ∀k,k<(round g).n→k≠V %(round g).n→((round g).r k).idle=0∧((round g).r k).ls=L∧c≤((round g).r k).cm∧c≤((round g).r k).sb∧L≤((round g).r (V %(round g).n)).hv.getD k 0:=fun k hk hne=>by
  rcases SD2.pd k hk hne with⟨x,hx,_⟩|⟨a1,a2,a3,a4,⟨x,hx,_⟩|a5⟩
  ·rw[hend] at hx;cases hx
  ·rw[hend] at hx;cases hx
  ·exact⟨a1,a2,a3,a4,a5⟩
 have rP:=G3.rep hPn2
 have hall:=(hA.ct _ hPn2).all (leads_yes (by rw[SD2.ld.1,rP.nn,rP.id]) SD2.ld.2) (by rw[rP.nn];exact G3.n1) (by rw[rP.nn];exact rP.hl) (by rw[rP.id,rP.nn];exact hPn2) rP.od.2.2.1 fun k hk hne=>by
  rw[rP.nn] at hk
  rw[rP.id] at hne
  rw[SD2.ls]
  exact(hpd k hk hne).2.2.2.2
 rw[SD2.ls] at hall
 refine⟨⟨SD2.top,SD2.ld,fun k hk hne=>⟨(SD2.dn k hk hne).1,(SD2.dn k hk hne).2,(hpd k hk hne).1⟩⟩,SD2.ls,fun k hk=> ?_,Z18⟩
 by_cases e:k=V %(round g).n
 ·rw[e]
  exact⟨SD2.ls,Z18,Z18⟩
 ·have h3:=hpd k hk e
  exact⟨h3.2.1,h3.2.2.1,h3.2.2.2.1⟩
def rounds:Nat→Gp O→Gp O
 |0,g=>g
 |k+1,g=>round (rounds k g)
theorem rounds_succ (k:Nat)(g:Gp O):rounds (k+1) g=round (rounds k g):=rfl
theorem rounds_n (k:Nat)(g:Gp O):(rounds k g).n=g.n:=by
 induction k with
 |zero=>rfl
 |succ k ih=>show(round (rounds k g)).n=_;rw[round_n,ih]
def Rk (B t:Nat)(g:Gp O):Prop:= ∃V,V≤B∧Top V g∧(AllDn V g∨(1≤t∧LeadX V g.n g.r)∨(2≤t∧ ∃j,j<g.n∧(g.r j).vw=V∧8≤(g.r j).idle+(t-2)))
structure RG (ok:O→Bool)(N B:Nat)(h:Gh O)(g:Gp O):Prop where
 gi:GI ok N h g
 af:Aft g
 wy:g.way= []
 tp:Top B g
theorem RG.round (hN:N≤TM)(hn:g.n≤5){B:Nat}(R:RG ok N B h g)(hB:B≤196): ∃h',RG ok N (B+1) h' (round g)∧Gon g.n h h' g (round g):=by
 obtain⟨hend,h1,G1,E1,T1⟩:=round_end hN R.gi hn R.tp (by have:=phi_nil (V:=B) g R.wy hn;omega)
 exact⟨h1,⟨G1,R.af.round hN R.gi,hend,T1⟩,E1⟩
theorem Rk.round (hN:N≤TM)(hn:g.n≤5){B t:Nat}(R:RG ok N B h g)(hB:B≤190)(K:Rk B t g):Rk (B+1) (t-1) (round g):=by
 obtain⟨V,hV,T,K⟩:=K
 have hTM:V<TM:=by unfold TM;omega
 have hphi:phi V g≤29000:=by have:=phi_nil (V:=V) g R.wy hn;omega
 rcases K with K|⟨ht,K⟩|⟨ht,j,hj,hjv,hji⟩
 ·obtain⟨_,S⟩:=stage hN R.gi hn ⟨T,K⟩ R.af hphi (c:=0) ⟨Nat.zero_le _,Nat.zero_le _⟩
  exact⟨V,Z18,S.d.1,.inl S.d.2⟩
 ·rcases round_go (j:=0) (t:=0) hN hTM R.gi hn T hphi (fun hl=>absurd K hl) with S|⟨_,S⟩|⟨hl,_⟩
  ·exact⟨V+1,Z18,S.1,.inl S.2⟩
  ·exact⟨V,Z18,S.1,.inl S.2⟩
  ·exact absurd K hl
 ·rcases round_go (j:=j) (t:=(g.r j).idle) hN hTM R.gi hn T hphi (fun hl=>⟨hj,hjv,Nat.le_refl _,R.wy⟩) with S|⟨_,S⟩|⟨hl,T2,S,hno⟩
  ·exact⟨V+1,Z18,S.1,.inl S.2⟩
  ·exact⟨V,Z18,S.1,.inl S.2⟩
  ·have h3:3≤t:=by omega
   refine⟨V,Z18,T2,?_⟩
   rcases S with S|⟨s1,s2⟩
   ·refine .inr (.inl ⟨Z18,?_⟩)
    rw[round_n];exact S
   ·refine .inr (.inr ⟨Z18,j,by rw[round_n];exact hj,s1,Z18⟩)
theorem top_max (g:Gp O)(hn:1≤g.n): ∃V j,j<g.n∧(g.r j).vw=V∧Top V g:=by
 have aux: ∀m,1≤m→m≤g.n→ ∃j,j<m∧ ∀k,k<m→(g.r k).vw≤(g.r j).vw:=by
  intro m
  induction m with
  |zero=>intro h;omega
  |succ m ih=>
   intro _ hm
   rcases Nat.eq_zero_or_pos m with h0|h0
   ·subst h0
    exact⟨0,Z18,fun k hk=>by rw[show k=0 by omega];exact Nat.le_refl _⟩
   ·obtain⟨j,hj,hmax⟩:=ih h0 Z18
    rcases Nat.le_total (g.r j).vw (g.r m).vw with h1|h1
    ·exact⟨m,Z18,fun k hk=>by
      by_cases e:k=m
      ·rw[e];exact Nat.le_refl _
      ·exact Nat.le_trans (hmax k Z18) h1⟩
    ·exact⟨j,Z18,fun k hk=>by
      by_cases e:k=m
      ·rw[e];exact h1
      ·exact hmax k Z18⟩
 obtain⟨j,hj,hmax⟩:=aux g.n hn (Nat.le_refl _)
 exact⟨_,j,hj,rfl,hmax⟩
theorem Rk.start {B:Nat}(R:RG ok N B h g):Rk B 10 g:=by
 obtain⟨V,j,hj,e,T⟩:=top_max g R.gi.n1
 exact⟨V,by rw[←e];exact R.tp j hj,T,.inr (.inr ⟨Z18,j,hj,e,Z18⟩)⟩
theorem rounds_rk (hN:N≤TM)(hn:g.n≤5){B:Nat}(hB:B≤151)(h1:Gh O)(R:RG ok N B h1 (round g)): ∀k,k≤39→ ∃h',RG ok N (B+k) h' (rounds (k+1) g)∧Rk (B+k) (10-k) (rounds (k+1) g)
 |0,_=>⟨h1,R,Rk.start R⟩
 |k+1,hk=>by
  obtain⟨h2,R2,K2⟩:=rounds_rk hN hn hB h1 R k Z18
  have hn2:(rounds (k+1) g).n≤5:=by rw[rounds_n];exact hn
  obtain⟨h3,R3,_⟩:=R2.round hN hn2 Z18
  refine⟨h3,R3,?_⟩
  have K3:=K2.round hN hn2 R2 Z18
  rw[show B+k+1=B+(k+1) by omega,show 10-k-1=10-(k+1) by omega] at K3
  exact K3
theorem rounds_sf (hN:N≤TM)(hn:g.n≤5){B:Nat}(hB:B≤151)(h1:Gh O)(R:RG ok N B h1 (round g)): ∃h' V L,V≤B+39∧RG ok N (B+39) h' (rounds 40 g)∧SF V L L (rounds 40 g):=by
 obtain⟨h2,R2,V,hV,T,K⟩:=rounds_rk hN hn hB h1 R 37 Z18
 have e40:rounds 40 g=round (round (rounds 38 g)):=by rw[rounds_succ 39,rounds_succ 38]
 rw[e40]
 have hn2:(rounds 38 g).n≤5:=by rw[rounds_n];exact hn
 rw[show 37+1=38 from rfl] at R2 T K
 generalize rounds 38 g=q at*
 have hD:D V q:=by
  rcases K with K|⟨h0,_⟩|⟨h0,_⟩
  ·exact⟨T,K⟩
  ·exact absurd h0 Z40
  ·exact absurd h0 Z40
 have hn3:(round q).n≤5:=by rw[round_n];exact hn2
 obtain⟨h3,R3,_⟩:=R2.round hN hn2 Z18
 obtain⟨h4,R4,_⟩:=R3.round hN hn3 Z18
 obtain⟨_,S1⟩:=stage hN R2.gi hn2 hD R2.af (by have:=phi_nil (V:=V) _ R2.wy hn2;omega) (c:=0) ⟨Nat.zero_le _,Nat.zero_le _⟩
 obtain⟨_,S2⟩:=stage hN R3.gi hn3 S1.d R3.af (by have:=phi_nil (V:=V) _ R3.wy hn3;omega) (c:=(q.r (V % q.n)).ls) S1.cp
 have e:((round q).r (V %(round q).n)).ls=(q.r (V % q.n)).ls:=S1.lp
 rw[e] at S2
 refine⟨h4,V,_,Z18,?_,S2⟩
 rw[show B+39=B+37+1+1 by omega]
 exact R4
variable {O:Type}
variable {N:Nat} {ok:O→Bool} {h h':Gh O} {g:Gp O} {V:Nat}
structure EvI (e:Nat)(g:Gp O):Prop where
 af:Aft g
 tp: ∃V,V≤e∧Top V g∧phi V g≤180*e
theorem wsum_out (l:List (Sd O))(k:Nat){x:Sd O}(hx:l[k]?=some x):wsum (l.take k++l.drop (k+1))+wk x.m.kd=wsum l:=by
 have hk:=(List.getElem?_eq_some_iff.1 hx).1
 have e:l=l.take k++x::l.drop (k+1):=by
  conv=>lhs;rw[←List.take_append_drop k l]
  rw[List.drop_eq_getElem_cons hk,(List.getElem?_eq_some_iff.1 hx).2]
 conv=>rhs;rw[e]
 rw[wsum_app,wsum_app,wsum]
 omega
theorem wsum_out_le (l:List (Sd O))(k:Nat):wsum (l.take k++l.drop (k+1))≤wsum l:=by
 rcases Nat.lt_or_ge k l.length with hk|hk
 ·have:=wsum_out l k (List.getElem?_eq_getElem hk);omega
 ·rw[List.take_of_length_le hk,List.drop_eq_nil_of_le Z18,List.append_nil];exact Nat.le_refl _
theorem phi_wayOut (V:Nat)(g:Gp O)(k:Nat):phi V (wayOut g k)≤phi V g:=by
 have:=wsum_out_le g.way k
 show sumTo (fun k=>stp V (g.r k)) g.n+wsum (g.way.take k++g.way.drop (k+1))≤_
 unfold phi
 omega
theorem EvI.zero (n:Nat):EvI 0 (gp0 n:Gp O):=by
 refine⟨Aft.zero n,0,Nat.le_refl _,fun k hk=>Nat.le_refl _,?_⟩
 have h1:=sumTo_le (fun k=>stp 0 ((gp0 n:Gp O).r k)) 0 n fun k hk=>Nat.le_refl _
 show sumTo (fun k=>stp 0 ((gp0 n:Gp O).r k)) n+0≤_
 omega
theorem EvI.up {e:Nat}(E:EvI e g):EvI (e+1) g:=by
 obtain⟨V,h1,h2,h3⟩:=E.tp
 exact⟨E.af,V,Z18,h2,Z18⟩
theorem EvI.out {e:Nat}(E:EvI e g)(k:Nat):EvI e (wayOut g k):=by
 obtain⟨V,h1,h2,h3⟩:=E.tp
 exact⟨⟨E.af.ct,E.af.td,E.af.bs⟩,V,h1,h2,Nat.le_trans (phi_wayOut V g k) h3⟩
theorem EvI.dbl {e:Nat}(E:EvI e g)(x:Sd O):EvI (e+1) (evDbl g x):=by
 obtain⟨V,h1,h2,h3⟩:=E.tp
 refine⟨⟨E.af.ct,E.af.td,E.af.bs⟩,V,Z18,h2,?_⟩
 show sumTo (fun k=>stp V (g.r k)) g.n+wsum (g.way++ [x])≤_
 rw[wsum_app]
 have h4:wsum [x]=wk x.m.kd+0:=rfl
 have h5:=(wk_pos x.m.kd).2
 unfold phi at h3
 omega
theorem EvI.keep {e:Nat}(E:EvI e g)(i:Nat):EvI e (evKeep g i):=by
 obtain⟨V,h1,h2,h3⟩:=E.tp
 exact⟨⟨E.af.ct,E.af.td,E.af.bs⟩,V,h1,h2,h3⟩
theorem EvI.tick {e:Nat}(E:EvI e g)(G:GI ok N h g)(hn:g.n≤5){i:Nat}(hi:i<g.n)(G':GI ok N h' (evTick g i)):EvI (e+1) (evTick g i):=by
 obtain⟨V,h1,h2,h3⟩:=E.tp
 refine⟨E.af.tick hi G',V+1,Z18,fun k hk=> ?_,?_⟩
 ·rw[evTick_r]
  by_cases e:k=i
  ·rw[e,upd_same]
   show(Vw.tick (g.r i)).vw≤V+1
   have h4:=h2 i hi
   rcases tick_cases (g.r i) with⟨_,e⟩|⟨_,_,_,e⟩|⟨_,_,o,e,_⟩
   ·rw[e,tell_eq];show(g.r i).vw≤_;omega
   ·rw[e,change_vw];omega
   ·rw[e];show(g.r i).vw≤_;omega
  ·rw[upd_ne _ _ e];exact Nat.le_succ_of_le (h2 k hk)
 ·have h4:=phi_tick (V:=V+1) G hn hi (by have:=h2 i hi;omega)
  have h5:=phi_up V g
  omega
theorem EvI.ask {e:Nat}(E:EvI e g)(G:GI ok N h g)(hn:g.n≤5){i:Nat}(hi:i<g.n)(o:O)(G':GI ok N h' (evAsk ok g i o)):EvI (e+1) (evAsk ok g i o):=by
 obtain⟨V,h1,h2,h3⟩:=E.tp
 have hr:(evAsk ok g i o).r=upd g.r i (clr (if askE ok (g.r i) o=0 then Vw.ask (g.r i) o else g.r i)):=now_r _ _ _
 have hs:=G'.sbcm (i:=i) (r:=if askE ok (g.r i) o=0 then Vw.ask (g.r i) o else g.r i) hi (by rw[hr,upd_same])
 have h4:=phi_now V g hi (if askE ok (g.r i) o=0 then Vw.ask (g.r i) o else g.r i) (G.em i hi).2.1
 have h6:ph V (if askE ok (g.r i) o=0 then Vw.ask (g.r i) o else g.r i)≤ph V (g.r i)+25∧(if askE ok (g.r i) o=0 then Vw.ask (g.r i) o else g.r i).vw=(g.r i).vw:=by
  split
  ·refine⟨(pw_ask V (g.r i) o (by rw[(G.rep hi).nn];exact hn)).p,?_⟩
   unfold Vw.ask
   rw[tell_eq]
   rfl
  ·exact⟨Nat.le_add_right _ _,rfl⟩
 refine⟨E.af.put rfl hr ?_ hs,V,Z18,fun k hk=> ?_,?_⟩
 ·split
  ·exact Ct.ask _ _
  ·exact E.af.ct i hi
 ·rw[hr]
  by_cases e:k=i
  ·rw[e,upd_same]
   show(if askE ok (g.r i) o=0 then Vw.ask (g.r i) o else g.r i).vw≤V
   rw[h6.2];exact h2 i hi
  ·rw[upd_ne _ _ e];exact h2 k hk
 ·have h5:phi V (evAsk ok g i o)+ph V (g.r i)=phi V g+ph V (if askE ok (g.r i) o=0 then Vw.ask (g.r i) o else g.r i):=h4
  omega
theorem EvI.take {e:Nat}(E:EvI e g)(G:GI ok N h g)(hn:g.n≤5){k:Nat}{x:Sd O}(hk:g.way[k]?=some x)(G':GI ok N h' (evTake g k x)):EvI e (evTake g k x):=by
 obtain⟨V,h1,h2,h3⟩:=E.tp
 have hx:x∈g.way:=List.mem_of_getElem? hk
 have X:=G.wy x hx
 have hmv:=G.msv h2 hx
 have hkd:1≤x.m.kd∧x.m.kd≤6:=by
  exact Z92
 refine⟨E.af.put rfl (evTake_r g k x) ((E.af.ct x.to X.to).take (G.al.core.le x.to X.to) fun hk=>⟨?_,?_⟩) (G'.sbcm (i:=x.to) X.to (by rw[evTake_r,upd_same])),V,h1,fun j hj=> ?_,?_⟩
 ·rw[(G.rep X.to).id];exact X.ne
 ·rw[(G.rep X.to).nn]
  exact Z56
 ·rw[evTake_r]
  by_cases e:j=x.to
  ·rw[e,upd_same]
   show(Vw.take (g.r x.to) x.m).vw≤V
   have h4:=(take_old (V:=V+1) (g.r x.to) x.m Z18).1
   have h5:=h2 x.to X.to
   omega
  ·rw[upd_ne _ _ e];exact h2 j hj
 ·have h4:=pw_take V (g.r x.to) x.m (by rw[(G.rep X.to).nn];exact hn) hmv hkd
  have h5:=phi_now V (wayOut g k) X.to (Vw.take (g.r x.to) x.m) (G.em x.to X.to).2.1
  have h6:phi V (wayOut g k)+wk x.m.kd=phi V g:=by
   have:=wsum_out g.way k hk
   show sumTo (fun k=>stp V (g.r k)) g.n+wsum (g.way.take k++g.way.drop (k+1))+wk x.m.kd=_
   unfold phi
   omega
  have h7:ph V ((wayOut g k).r x.to)=ph V (g.r x.to):=rfl
  have h8:phi V (evTake g k x)=phi V ((wayOut g k).now x.to (Vw.take (g.r x.to) x.m)):=rfl
  omega
theorem EvI.load {e:Nat}(E:EvI e g)(G:GI ok N h g){i:Nat}(hi:i<g.n){r:Rp O}(hl:Vw.load ok i g.n (g.kept i) (g.saves i)=some r)(G':GI ok N h' (evLoad g i r)):EvI (e+1) (evLoad g i r):=by
 obtain⟨V,h1,h2,h3⟩:=E.tp
 obtain⟨q0,q,l1,l2,Q⟩:=(G.al.ld i hi).ex
 rw[(G.em i hi).1,List.append_nil] at l2
 have hr:r=ldE q:=by
  unfold Vw.load at hl
  rw[l1] at hl
  dsimp only at hl
  rw[l2] at hl
  exact(Option.some.inj hl).symm
 have hvw:r.vw=(g.r i).vw:=by
  rw[hr,←Q.qv]
  unfold ldE
  dsimp only
  split<;>rfl
 have hout:r.out= []:=by
  rw[hr,←Q.out]
  unfold ldE
  dsimp only
  split<;>rfl
 have hst:r.st≠0:=by
  rw[hr]
  unfold ldE
  dsimp only
  split
  ·show(1:Nat)≠0;omega
  ·show(2:Nat)≠0;omega
 have hrr:(evLoad g i r).r=upd g.r i (clr r):=by
  show upd (upd g.r i r) i (clr (upd g.r i r i))=_
  rw[upd_same,upd_upd]
 refine⟨E.af.put rfl hrr (Ct.st hst) (G'.sbcm (i:=i) hi (by rw[hrr,upd_same])),V,Z18,fun k hk=> ?_,?_⟩
 ·rw[hrr]
  by_cases e:k=i
  ·rw[e,upd_same]
   show r.vw≤V
   rw[hvw];exact h2 i hi
  ·rw[upd_ne _ _ e];exact h2 k hk
 ·have h4:=phi_now V g hi r (G.em i hi).2.1
  have h5:phi V (evLoad g i r)=phi V (g.now i r):=rfl
  have h6:ph V r≤ph V (g.r i)+10:=by
   unfold ph
   rw[hvw,hout]
   have:wsum ([]:List (Sd O))=0:=rfl
   split<;>omega
  omega
theorem asked (hN:N+1≤TM)(hn:g.n≤5){L:Nat}(G:GI ok N h g)(A:Aft g)(S:SF V L L g)(o:O):
 leads (g.r (V % g.n))=true∧(∀k,k<g.n→k≠V % g.n→leads (g.r k)=false)∧(askE ok (g.r (V % g.n)) o=0∨askE ok (g.r (V % g.n)) o=1)∧
  ∃h',GI ok (N+1) h' (evAsk ok g (V % g.n) o)∧Aft (evAsk ok g (V % g.n) o)∧D V (evAsk ok g (V % g.n) o)∧phi V (evAsk ok g (V % g.n) o)≤phi V g+25∧
   (askE ok (g.r (V % g.n)) o=0→((evAsk ok g (V % g.n) o).r (V % g.n)).ls=L+1∧(h'.W V)[L]?=some o)∧(askE ok (g.r (V % g.n)) o≠0→((evAsk ok g (V % g.n) o).r (V % g.n)).ls=L):=by
 have hPn:V % g.n<g.n:=Nat.mod_lt _ G.n1
 have rP:=G.rep hPn
 have hl:leads (g.r (V % g.n))=true:=leads_yes (by rw[S.d.2.1.1,rP.nn,rP.id]) S.d.2.1.2
 have hbs:L≤(g.r (V % g.n)).bs:=Nat.le_trans S.cp.2 (A.bs _ hPn)
 have hask:askE ok (g.r (V % g.n)) o=if ok o=false then 1 else 0:=by
  unfold askE
  by_cases e:ok o=false
  ·rw[if_pos e,if_pos e]
  ·rw[if_neg e,if_neg e,hl,if_neg Z97,if_neg (by have:=S.lp;omega)]
 refine⟨hl,fun k hk hne=> ?_,?_,?_⟩
 ·have rk:=G.rep hk
  have h1:=(S.d.2.2 k hk hne).1
  have h2:(g.r k).nr≤(g.r k).vw:=G.al.core.le k hk
  have h3:=S.d.1 k hk
  exact leads_no (by rw[show(g.r k).vw=V by omega,rk.nn,rk.id];exact Ne.symm hne)
 ·rw[hask];split<;>simp
 have hr:(evAsk ok g (V % g.n) o).r=upd g.r (V % g.n) (clr (if askE ok (g.r (V % g.n)) o=0 then Vw.ask (g.r (V % g.n)) o else g.r (V % g.n))):=now_r _ _ _
 have hD: ∀q:Rp O,q.vw=V→q.st=0→(evAsk ok g (V % g.n) o).r=upd g.r (V % g.n) (clr q)→D V (evAsk ok g (V % g.n) o):=fun q e1 e2 e3=>by
  refine⟨fun k hk=> ?_,⟨?_,fun k hk hne=> ?_⟩⟩
  ·rw[e3]
   by_cases e:k=V % g.n
   ·rw[e,upd_same];exact Nat.le_of_eq e1
   ·rw[upd_ne _ _ e];exact S.d.1 k hk
  ·show((evAsk ok g (V % g.n) o).r (V % g.n)).vw=V∧((evAsk ok g (V % g.n) o).r (V % g.n)).st=0
   rw[e3,upd_same];exact⟨e1,e2⟩
  ·rw[e3,upd_ne _ _ (show k≠V % g.n from hne)];exact S.d.2.2 k hk hne
 have hphi:phi V (evAsk ok g (V % g.n) o)+ph V (g.r (V % g.n))=phi V g+ph V (if askE ok (g.r (V % g.n)) o=0 then Vw.ask (g.r (V % g.n)) o else g.r (V % g.n)):=phi_now V g hPn _ (G.em _ hPn).2.1
 by_cases e0:askE ok (g.r (V % g.n)) o=0
 ·have hok:ok o=true:=by
   rw[hask] at e0
   by_cases e:ok o=false
   ·rw[if_pos e] at e0;omega
   ·simpa using e
  obtain⟨h1,E1,v1,p1⟩:=G.pre hPn (G.al.p_ask hN hPn hl hok) (ask_td _ o)
  have e1:evAsk ok g (V % g.n) o=settle {g with r:=upd g.r (V % g.n) (Vw.ask (g.r (V % g.n)) o)} (V % g.n):=by
   unfold evAsk Gp.now
   rw[if_pos e0]
  have G1:GI ok (N+1) h1 (evAsk ok g (V % g.n) o):=by rw[e1];exact p1.settle hPn
  have ra:=p1.al.rep (V % g.n) hPn
  have ra':RI g.n ok h1 (fun k=>(upd g.r (V % g.n) (Vw.ask (g.r (V % g.n)) o) k).vw) (V % g.n) (upd g.r (V % g.n) (Vw.ask (g.r (V % g.n)) o) (V % g.n)):=ra
  have hr2:=hr
  rw[if_pos e0] at hr2 hphi
  have hav:(Vw.ask (g.r (V % g.n)) o).vw=V∧(Vw.ask (g.r (V % g.n)) o).st=0∧(Vw.ask (g.r (V % g.n)) o).ls=L+1∧(Vw.ask (g.r (V % g.n)) o).nr=(g.r (V % g.n)).nr∧(Vw.ask (g.r (V % g.n)) o).bs=(g.r (V % g.n)).bs∧(Vw.ask (g.r (V % g.n)) o).log=(g.r (V % g.n)).log++ [o]:=by
   unfold Vw.ask
   rw[tell_eq]
   exact⟨S.d.2.1.1,S.d.2.1.2,by show(g.r (V % g.n)).ls+1=_;rw[S.lp],rfl,rfl,rfl⟩
  refine⟨h1,G1,A.put rfl hr2 (Ct.ask _ _) (G1.sbcm (i:=V % g.n) hPn (by rw[hr2,upd_same])),hD _ hav.1 hav.2.1 hr2,?_,fun _=>⟨?_,?_⟩,fun hne=>absurd e0 hne⟩
  ·have:=(pw_ask V (g.r (V % g.n)) o (by rw[rP.nn];exact hn)).p
   omega
  ·rw[hr2,upd_same];exact hav.2.2.1
  ·have h5:=ra'.sg
   rw[upd_same] at h5
   have h6:=(G.al.leads_nr hPn hl).2.2.1
   rw[hav.2.2.2.1,hav.2.2.2.2.1,hav.2.2.2.2.2,h6,S.d.2.1.1] at h5
   have h7:((g.r (V % g.n)).log++ [o])[L-(g.r (V % g.n)).bs]?=some o:=by
    have h8:=rP.ls
    have h9:=S.lp
    rw[List.getElem?_append_right Z18,show L-(g.r (V % g.n)).bs-(g.r (V % g.n)).log.length=0 by omega]
    rfl
   obtain⟨z,hz⟩:=h5.2
   have h8:((h1.W V).drop (g.r (V % g.n)).bs)[L-(g.r (V % g.n)).bs]?=some o:=by
    rw[←hz,List.getElem?_append_left (List.getElem?_eq_some_iff.1 h7).1];exact h7
   rw[List.getElem?_drop] at h8
   have h9:=S.lp
   have h10:=rP.od
   rw[show(g.r (V % g.n)).bs+(L-(g.r (V % g.n)).bs)=L by omega] at h8
   exact h8
 ·have hr2:=hr
  rw[if_neg e0] at hr2 hphi
  obtain⟨h1,G1,E1⟩:=G.ask hN hPn o
  refine⟨h1,G1,A.put rfl hr2 (A.ct _ hPn) (G1.sbcm (i:=V % g.n) hPn (by rw[hr2,upd_same])),hD _ S.d.2.1.1 S.d.2.1.2 hr2,?_,fun e=>absurd e e0,fun _=> ?_⟩
  ·omega
  ·rw[hr2,upd_same];exact S.lp
theorem three (hN:N≤TM)(hn:g.n≤5)(G:GI ok N h g)(A:Aft g)(S:D V g)(hV:V≤190)(hp:phi V g≤29000):
 (∀k,k<3→(rounds (k+1) g).way= [])∧ ∃h',GI ok N h' (rounds 3 g)∧Gon g.n h h' g (rounds 3 g)∧SF V (g.r (V % g.n)).ls (g.r (V % g.n)).ls (rounds 3 g)∧(∀k,k<3→ ∃h',GI ok N h' (rounds k g)∧Top V (rounds k g)∧phi V (rounds k g)≤29000):=by
 have e3:rounds 3 g=round (round (round g)):=by rw[rounds_succ 2,rounds_succ 1,rounds_succ 0];rfl
 have e2:rounds 2 g=round (round g):=by rw[rounds_succ 1,rounds_succ 0];rfl
 have e1:rounds 1 g=round g:=rfl
 obtain⟨w1,S1⟩:=stage hN G hn S A hp (c:=0) ⟨Nat.zero_le _,Nat.zero_le _⟩
 obtain⟨_,h1,G1,E1,T1⟩:=round_end hN G hn S.1 hp
 have hn1:(round g).n≤5:=by rw[round_n];exact hn
 have p1:phi V (round g)≤29000:=by have:=phi_nil (V:=V) _ w1 hn1;omega
 obtain⟨w2,S2⟩:=stage hN G1 hn1 S1.d (A.round hN G) p1 (c:=(g.r (V % g.n)).ls) S1.cp
 obtain⟨_,h2,G2,E2,T2⟩:=round_end hN G1 hn1 S1.d.1 p1
 have hn2:(round (round g)).n≤5:=by rw[round_n];exact hn1
 have p2:phi V (round (round g))≤29000:=by have:=phi_nil (V:=V) _ w2 hn2;omega
 have L1:=S1.lp
 rw[L1] at S2
 obtain⟨w3,S3⟩:=stage hN G2 hn2 S2.d ((A.round hN G).round hN G1) p2 (c:=(g.r (V % g.n)).ls) S2.cp
 obtain⟨_,h3,G3,E3,T3⟩:=round_end hN G2 hn2 S2.d.1 p2
 have L2:=S2.lp
 rw[L2] at S3
 have E2':Gon g.n h1 h2 (round g) (round (round g)):=by rw[round_n] at E2;exact E2
 have E3':Gon g.n h2 h3 (round (round g)) (round (round (round g))):=by rw[round_n,round_n] at E3;exact E3
 refine⟨fun k hk=> ?_,h3,?_,?_,?_,fun k hk=> ?_⟩
 ·have:k=0∨k=1∨k=2:=by omega
  rcases this with rfl|rfl|rfl
  ·exact w1
  ·rw[e2];exact w2
  ·rw[e3];exact w3
 ·rw[e3];exact G3
 ·rw[e3];exact(E1.trans E2').trans E3'
 ·rw[e3];exact S3
 ·have:k=0∨k=1∨k=2:=by omega
  rcases this with rfl|rfl|rfl
  ·exact⟨h,G,S.1,hp⟩
  ·exact⟨h1,G1,S1.d.1,p1⟩
  ·rw[e2];exact⟨h2,G2,S2.d.1,p2⟩
theorem order_is {L:Nat}(G:GI ok N h g)(S:SF V L L g)(A:Aft g):g.order.length=L∧g.order=(h.W V).take L∧ ∀k,k<g.n→(g.r k).st=0∧(g.r k).vw=V∧(g.r k).nr=V∧(g.r k).td=L∧(g.r k).ls=L:=by
 have hPn:V % g.n<g.n:=Nat.mod_lt _ G.n1
 have rP:=G.rep hPn
 have hl:=G.al.leads_nr hPn (leads_yes (by rw[S.d.2.1.1,rP.nn,rP.id]) S.d.2.1.2)
 rw[S.d.2.1.1] at hl
 have htd: ∀k,k<g.n→(g.r k).td=L:=fun k hk=>by
  have h1:=S.all k hk
  have h2:=(G.rep hk).od
  have h3:=A.td k hk
  omega
 obtain⟨v,hc,ho⟩:=G.od
 have hB:h.B V:=by have:=G.al.core.bn _ hPn;rw[show(g.r (V % g.n)).nr=V from hl.2.2.1] at this;exact this
 have hv:v≤V:=by
  have h1:=G.al.core.pv v hc.1
  have h2:v % g.n<g.n:=Nat.mod_lt _ G.n1
  have h3:(g.r (v % g.n)).nr≤(g.r (v % g.n)).vw:=G.al.core.le _ h2
  have h4:=S.d.1 _ h2
  have h5:v≤(g.r (v % g.n)).nr:=h1
  omega
 obtain⟨h1,h2⟩:=G.al.core.safe' hv hB hc
 have h3:(h.W V).length=L:=by rw[←hl.2.2.2];exact S.lp
 have h4:=(G.em _ hPn).2.2.2.1
 have h5:=htd _ hPn
 have hlen:g.order.length=L:=by omega
 refine⟨hlen,?_,fun k hk=> ?_⟩
 ·rw[hlen] at ho h2
  rw[h2];exact ho
 ·by_cases e:k=V % g.n
  ·rw[e];exact⟨hl.1,S.d.2.1.1,hl.2.2.1,htd _ hPn,S.lp⟩
  ·have h6:=S.d.2.2 k hk e
   have h7:(g.r k).nr≤(g.r k).vw:=G.al.core.le k hk
   have h8:=S.d.1 k hk
   have h9:=h6.1
   exact⟨h6.2.1,Z18,h6.1,htd k hk,(S.all k hk).1⟩
end Go.Proofs.YtdmjegelcdghlaaGreat.Vw
