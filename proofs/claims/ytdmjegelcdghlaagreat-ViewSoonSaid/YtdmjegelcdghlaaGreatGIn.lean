/-
  Chapter 22, plain: a new view, message by message.
-/
import Derived.Test.YtdmjegelcdghlaaGreatGIh
set_option maxRecDepth 100000
set_option maxHeartbeats 64000000
set_option linter.unusedVariables false
set_option linter.unusedSimpArgs false
namespace Go.Proofs.YtdmjegelcdghlaaGreat
theorem Z158 {p:Prop}(h:p:=by rw[hc.2.2.2.2.2.2.2.1,if_pos hP,hP,upd_same];rfl):p:=h
theorem Z99 {p:Prop}(h:p:=by exact .inr ⟨by rw[upd_ne _ _ hP];exact b1,b2.ext hk1 hee hvv (fun o=>by rw[upd_ne _ _ hP];exact o) (by rw[upd_ne _ _ hP];exact Nat.le_refl _)⟩):p:=h
end Go.Proofs.YtdmjegelcdghlaaGreat
namespace Go.Proofs.YtdmjegelcdghlaaGreat.Vw
variable {O:Type}
variable {N:Nat} {ok:O→Bool} {h h':Gh O} {g:Gp O} {V:Nat}
theorem Cand.keep {n:Nat}{R R1:Nat→Rp O}{way out:List (Sd O)}(hn:1≤n)(C:Cand V n h R way)(e:Ext n h h' fun k=>(R k).vw)(hv: ∀k,k<n→(R k).vw≤(R1 k).vw)
 (hP:(R1 (V % n)).nr<V∧((R (V % n)).vw=V→mayBegin (R1 (V % n))=mayBegin (R (V % n))∧(R1 (V % n)).offs=(R (V % n)).offs∧(R1 (V % n)).cm=(R (V % n)).cm))
 (hk: ∀k,k<n→((R k).vw<V→(R1 k).vw<V)∧((R k).vw=V→(R1 k).vw=V))
 (hy: ∀y∈way,y.m.vw=V→(y.m.kd=3∨y.m.kd=4)→y∈out∨((R y.to).vw=V∧y.m.kd=3)):Cand V n h' R1 out:=by
 have hPn:V % n<n:=Nat.mod_lt _ hn
 have hPv:(R1 (V % n)).vw=V→(R (V % n)).vw=V:=fun e1=>by
  have h1:=hv _ hPn
  rcases Nat.lt_or_ge (R (V % n)).vw V with h2|h2
  ·have:=(hk _ hPn).1 h2;omega
  ·omega
 refine⟨hP.1,fun e1=> ?_,fun e1=> ?_,fun k hkn=> ?_⟩
 ·rw[(hP.2 (hPv e1)).1];exact C.nm (hPv e1)
 ·rw[(hP.2 (hPv e1)).2.1];exact C.own (hPv e1)
 ·rcases C.each k hkn with⟨a,y,y1,y2,y3,y4⟩|⟨a,b⟩
  ·refine .inl ⟨(hk k hkn).1 a,y,?_,y2,y3,y4⟩
   rcases hy y y1 y4 y3 with q|q
   ·exact q
   ·rw[y2] at q;omega
  ·refine .inr ⟨(hk k hkn).2 a,fun hne=> ?_⟩
   rcases b hne with⟨y,y1,y2,y3,y4,y5⟩|⟨b1,b2⟩
   ·refine .inl ⟨y,?_,y2,y3,y4,y5⟩
    rcases hy y y1 y5 (.inr y4) with q|q
    ·exact q
    ·omega
   ·refine .inr ⟨(hk _ hPn).2 b1,b2.ext hkn e hv (fun o=> ?_) ?_⟩
    ·rw[(hP.2 b1).2.1];exact o
    ·rw[(hP.2 b1).2.2];exact Nat.le_refl _
theorem Cand.offer {n:Nat}{R1:Nat→Rp O}{l out:List (Sd O)}{Q:Rp O}{x:Sd O}(hn:1≤n)(hR:R1 (V % n)=clr (offerM Q x.m))(hout: ∀y∈l++(offerM Q x.m).out,y∈out)
 (hq:Q.vw=V∧Q.id=V % n∧Q.n=n) (hnr:Q.nr<V) (hst:Q.st=1) (hown:(Q.offs (V % n)).isSome=true) (hnm:mayBegin Q=false) (hao:x.m.ao≤Q.ls)
 (hof:OF n h' (fun k=>(R1 k).vw) V x.m.fr ⟨x.m.nr,x.m.ao,x.m.cm,x.m.ops⟩)
 (hoth: ∀k,k<n→k≠V % n→((R1 k).vw<V∧ ∃y∈l,y.to=k∧(y.m.kd=3∨y.m.kd=4)∧y.m.vw=V)∨((R1 k).vw=V∧((∃y∈l,y.to=V % n∧y.m.fr=k∧y.m.kd=4∧y.m.vw=V)∨k=x.m.fr∨(Q.offs k).isSome=true∨ ∃o,OF n h' (fun k=>(R1 k).vw) V k o∧o.last<Q.cm))):
 Cand V n h' R1 out∨Led V n R1 out:=by
 by_cases hacc:Q.st=1∧x.m.ao≤Q.ls∧Q.cm≤x.m.ao+x.m.ops.length
 ·have hgo:offerM Q x.m=begin_ {Q with offs:=upd Q.offs x.m.fr (some ⟨x.m.nr,x.m.ao,x.m.cm,x.m.ops⟩)}:=by
   unfold offerM;rw[if_pos hacc]
  rw[hgo] at hR hout
  have hup: ∀k,(Q.offs k).isSome=true→(upd Q.offs x.m.fr (some ⟨x.m.nr,x.m.ao,x.m.cm,x.m.ops⟩) k).isSome=true:=fun k hk=>by
   by_cases e:k=x.m.fr
   ·rw[e,upd_same];rfl
   ·rw[upd_ne _ _ e];exact hk
  refine Cand.at (way:=l) hn (R:=R1) hR hq hnr (hup _ hown) (fun y hy=>hout y (List.mem_append_right _ hy)) fun hb k hk hne=> ?_
  rcases hoth k hk hne with⟨a,y,y1,y2⟩|⟨a,b⟩
  ·exact .inl ⟨a,y,hout y (List.mem_append_left _ y1),y2⟩
  ·refine .inr ⟨a,?_⟩
   rcases b with⟨y,y1,y2⟩|b|b|b
   ·exact .inl ⟨y,hout y (List.mem_append_left _ y1),y2⟩
   ·refine .inr (.inl ?_)
    rw[hR,hb]
    show(upd Q.offs x.m.fr _ k).isSome=true
    rw[b,upd_same];rfl
   ·refine .inr (.inl ?_)
    rw[hR,hb]
    exact hup k b
   ·refine .inr (.inr ?_)
    rw[hR,hb]
    exact b
 ·have hgo:offerM Q x.m=Q:=by
   unfold offerM
   rw[if_neg hacc]
   have:leads Q=false:=by unfold leads;rw[hst];rfl
   rw[this];rfl
  rw[hgo] at hR hout
  have hshort:x.m.ao+x.m.ops.length<Q.cm:=by
   refine Nat.not_le.1 fun hle=>hacc ⟨hst,hao,hle⟩
  refine .inl ⟨by rw[hR];exact hnr,fun _=>by rw[hR];exact hnm,fun _=>by rw[hR];exact hown,fun k hk=> ?_⟩
  have hPv:(R1 (V % n)).vw=V:=by rw[hR];exact hq.1
  by_cases ek:k=V % n
  ·exact .inr ⟨by rw[ek];exact hPv,fun hne=>absurd ek hne⟩
  ·rcases hoth k hk ek with⟨a,y,y1,y2⟩|⟨a,b⟩
   ·exact .inl ⟨a,y,hout y (List.mem_append_left _ y1),y2⟩
   ·refine .inr ⟨a,fun _=> ?_⟩
    rcases b with⟨y,y1,y2⟩|b|b|b
    ·exact .inl ⟨y,hout y (List.mem_append_left _ y1),y2⟩
    ·refine .inr ⟨hPv,.inr ⟨_,b▸hof,?_⟩⟩
     rw[hR];exact hshort
    ·exact .inr ⟨hPv,.inl (by rw[hR];exact b)⟩
    ·exact .inr ⟨hPv,.inr (by rw[hR];exact b)⟩
theorem Cand.take (G:GI ok N h g)(T:Top V g)(C:Cand V g.n h g.r g.way){x:Sd O}{l:List (Sd O)}(hw:g.way=x::l)(G':GI ok N h' (evTake g 0 x))(E:Gon g.n h h' g (evTake g 0 x)):
 Cand V g.n h' (evTake g 0 x).r (evTake g 0 x).way∨Led V g.n (evTake g 0 x).r (evTake g 0 x).way:=by
 have hx:x∈g.way:=by rw[hw];exact List.mem_cons_self
 have X:=G.wy x hx
 have hmv:=G.msv T hx
 have hi:=X.to
 have ri:=G.rep hi
 have hPn:V % g.n<g.n:=Nat.mod_lt _ G.n1
 have hle: ∀k,k<g.n→((evTake g 0 x).r k).nr≤((evTake g 0 x).r k).vw:=fun k hk=>G'.al.core.le k hk
 have hvv:=E.vv
 have hee:=E.ee
 rw[evTake_r] at hle hvv⊢
 rw[evTake_way hw]
 have stay: ∀y∈g.way,y≠x→y∈l++(Vw.take (g.r x.to) x.m).out:=fun y hy hne=>by
  exact Z74
 have stayl: ∀y∈g.way,y≠x→y∈l:=fun y hy hne=>by
  rw[hw] at hy
  rcases List.mem_cons.1 hy with e|e
  ·exact absurd e hne
  ·exact e
 have hTi:=T x.to hi
 have same: ∀(q:Rp O),Vw.take (g.r x.to) x.m=q→(q.vw<V∨q.vw=(g.r x.to).vw)→((g.r x.to).vw=V→ ∃o,q= {g.r x.to with out:=o})→(x.m.vw=V→x.m.kd=3∨x.m.kd=4→(g.r x.to).vw=V∧x.m.kd=3)→
  Cand V g.n h' (upd g.r x.to (clr (Vw.take (g.r x.to) x.m))) (l++(Vw.take (g.r x.to) x.m).out):=by
  intro q hq h1 h2 h3
  refine C.keep G.n1 hee hvv ⟨?_,fun e=> ?_⟩ (fun k hk=> ?_) (fun y hy y1 y2=> ?_)
  ·by_cases e:V % g.n=x.to
   ·rcases Nat.lt_or_ge (g.r x.to).vw V with h4|h4
    ·refine Nat.lt_of_le_of_lt (hle _ hPn) ?_
     rw[e,upd_same,hq]
     show q.vw<V
     omega
    ·obtain⟨o,h5⟩:=h2 Z18
     rw[e,upd_same,hq,h5]
     have:=C.nb
     rw[e] at this
     exact this
   ·rw[upd_ne _ _ e];exact C.nb
  ·by_cases e1:V % g.n=x.to
   ·rw[e1] at e
    obtain⟨o,h5⟩:=h2 e
    rw[e1,upd_same,hq,h5]
    exact⟨rfl,rfl,rfl⟩
   ·rw[upd_ne _ _ e1];exact⟨rfl,rfl,rfl⟩
  ·by_cases e1:k=x.to
   ·rw[e1,upd_same,hq]
    show((g.r x.to).vw<V→q.vw<V)∧((g.r x.to).vw=V→q.vw=V)
    constructor
    ·intro;omega
    ·intro e2
     obtain⟨o,h5⟩:=h2 e2
     rw[h5];exact e2
   ·rw[upd_ne _ _ e1];exact⟨fun a=>a,fun a=>a⟩
  ·by_cases e1:y=x
   ·refine .inr ?_
    rw[e1];rw[e1] at y1 y2
    exact h3 y1 y2
   ·exact .inl (stay y hy e1)
 rcases Nat.lt_or_ge x.m.vw V with hlt|hge
 ·obtain⟨h1,h2⟩:=take_old (g.r x.to) x.m hlt
  exact .inl (same _ rfl h1 (fun e=>by obtain⟨o,ho⟩:=h2 e;exact⟨_,ho⟩) (fun e=>Z18))
 have hmV:x.m.vw=V:=by omega
 have hnold: ¬x.m.vw<(g.r x.to).vw:=by omega
 have hlno:(g.r x.to).vw=V→leads (g.r x.to)=false:=fun e=>by
  have:=(C.st G hi e).1
  unfold leads
  rw[this];rfl
 rcases C.kinds G hx hmV with hk|hk|⟨hk,hto⟩
 ·
   by_cases hv:(g.r x.to).vw<x.m.vw
   ·have hgo:Vw.take (g.r x.to) x.m=change (g.r x.to) V:=by
     unfold Vw.take
     rw[if_neg hnold,if_neg Z18,if_neg Z18,if_pos hk,if_pos hv,hmV]
    have hc:=chg0_is (g.r x.to) V
    rw[ri.nn,ri.id] at hc
    by_cases hP:V % g.n=x.to
    ·rw[change_is] at hgo
     refine Cand.at (way:=l) G.n1 (R:=g.r) (q:=chg0 (g.r x.to) V) (by rw[hP,upd_same,hgo]) ⟨hc.1,hc.2.1.trans hP.symm,hc.2.2.1⟩ ?_ ?_ (fun y hy=>by rw[hgo];exact List.mem_append_right _ hy) fun hb k hk1 hne=> ?_
     ·rw[hc.2.2.2.1,←hP];exact C.nb
     ·exact Z158
     ·rw[upd_ne _ _ (by rw[←hP];exact hne)]
      rcases C.each k hk1 with⟨a,y,y1,y2,y3,y4⟩|⟨a,b⟩
      ·exact .inl ⟨a,y,stay y y1 (fun e=>hne (by rw[←y2,e];exact hP.symm)),y2,y3,y4⟩
      ·refine .inr ⟨a,?_⟩
       rcases b hne with⟨y,y1,y2,y3,y4,y5⟩|⟨b1,b2⟩
       ·exact .inl ⟨y,stay y y1 (fun e=>by rw[e] at y4;omega),y2,y3,y4,y5⟩
       ·rw[hP] at b1;omega
    ·have hgo2:change (g.r x.to) V=chg0 (g.r x.to) V:=change_out (by rw[ri.nn,ri.id];exact hP)
     rw[hgo2] at hgo
     refine .inl ⟨?_,fun e=> ?_,fun e=> ?_,fun k hk1=> ?_⟩
     ·rw[upd_ne _ _ hP];exact C.nb
     ·rw[upd_ne _ _ hP] at e⊢;exact C.nm e
     ·rw[upd_ne _ _ hP] at e⊢;exact C.own e
     ·by_cases ek:k=x.to
      ·refine .inr ⟨?_,fun _=> .inl ?_⟩
       ·rw[ek,upd_same,hgo];exact hc.1
       ·obtain⟨y,y1,y2,y3,y4,y5⟩:=hc.2.2.2.2.2.2.2.2.2.1 hP
        exact⟨y,List.mem_append_right _ (by rw[hgo];exact y1),y2,y3.trans ek.symm,y4,y5⟩
      ·rcases C.each k hk1 with⟨a,y,y1,y2,y3,y4⟩|⟨a,b⟩
       ·refine .inl ⟨by rw[upd_ne _ _ ek];exact a,y,stay y y1 (fun e=>ek (by rw[←y2,e])),y2,y3,y4⟩
       ·refine .inr ⟨by rw[upd_ne _ _ ek];exact a,fun hne=> ?_⟩
        rcases b hne with⟨y,y1,y2,y3,y4,y5⟩|⟨b1,b2⟩
        ·exact .inl ⟨y,stay y y1 (fun e=>by rw[e] at y4;omega),y2,y3,y4,y5⟩
        ·exact Z99
   ·have hev:(g.r x.to).vw=V:=by omega
    have hgo:Vw.take (g.r x.to) x.m=g.r x.to:=by
     unfold Vw.take
     rw[if_neg hnold,if_neg Z18,if_neg Z18,if_pos hk,if_neg hv,hlno hev]
     rfl
    exact .inl (same _ hgo (.inr rfl) (fun _=>⟨_,rfl⟩) (fun _ _=>⟨hev,hk⟩))
 ·
   have hgo:Vw.take (g.r x.to) x.m=g.r x.to:=by
    unfold Vw.take
    rw[if_neg hnold,if_neg Z18,if_neg Z18,if_neg Z18,if_neg Z18,if_neg Z18,if_pos hk]
    by_cases hv:(g.r x.to).vw<x.m.vw
    ·rw[if_pos hv]
    ·rw[if_neg hv,hlno Z18];rfl
   exact .inl (same _ hgo (.inr rfl) (fun _=>⟨_,rfl⟩) (fun _ h6=>Z18))
 ·
   obtain⟨hof,hao⟩:=offer_short G hx hk hmV
   have hof':OF g.n h' (fun k=>(upd g.r x.to (clr (Vw.take (g.r x.to) x.m)) k).vw) V x.m.fr ⟨x.m.nr,x.m.ao,x.m.cm,x.m.ops⟩:=hof.ext hee X.fr (hvv _ X.fr)
   have hgo:Vw.take (g.r x.to) x.m=offerM (if(g.r x.to).vw<x.m.vw then change (g.r x.to) x.m.vw else g.r x.to) x.m:=by
    unfold Vw.take
    rw[if_neg hnold,if_neg Z18,if_neg Z18,if_neg Z18,if_pos hk]
   have hoth: ∀(Q:Rp O),((g.r x.to).vw=V→Q=g.r x.to)→ ∀k,k<g.n→k≠V % g.n→((upd g.r x.to (clr (Vw.take (g.r x.to) x.m)) k).vw<V∧ ∃y∈l,y.to=k∧(y.m.kd=3∨y.m.kd=4)∧y.m.vw=V)∨((upd g.r x.to (clr (Vw.take (g.r x.to) x.m)) k).vw=V∧((∃y∈l,y.to=V % g.n∧y.m.fr=k∧y.m.kd=4∧y.m.vw=V)∨k=x.m.fr∨(Q.offs k).isSome=true∨ ∃o,OF g.n h' (fun k=>(upd g.r x.to (clr (Vw.take (g.r x.to) x.m)) k).vw) V k o∧o.last<Q.cm)):=by
    intro Q hQ k hk1 hne
    rw[upd_ne _ _ (by rw[hto];exact hne)]
    rcases C.each k hk1 with⟨a,y,y1,y2,y3,y4⟩|⟨a,b⟩
    ·exact .inl ⟨a,y,stayl y y1 (fun e=>hne (by rw[←y2,e];exact hto)),y2,y3,y4⟩
    ·refine .inr ⟨a,?_⟩
     rcases b hne with⟨y,y1,y2,y3,y4,y5⟩|⟨b1,b2⟩
     ·by_cases e:y=x
      ·exact .inr (.inl (by rw[←y3,e]))
      ·exact .inl ⟨y,stayl y y1 e,y2,y3,y4,y5⟩
     ·rw[←hto] at b1
      rw[hQ b1]
      rcases b2 with b2|⟨o,o1,o2⟩
      ·exact .inr (.inr (.inl (by rw[hto];exact b2)))
      ·exact .inr (.inr (.inr ⟨o,o1.ext hee hk1 (hvv _ hk1),by rw[hto];exact o2⟩))
   by_cases hv:(g.r x.to).vw<x.m.vw
   ·rw[if_pos hv,hmV] at hgo
    have hc:=chg0_is (g.r x.to) V
    rw[ri.nn,ri.id] at hc
    rw[change_is] at hgo
    rcases begin_cases (chg0 (g.r x.to) V) (by rw[hc.2.2.1];exact G.n1) with⟨e,hm⟩|⟨h1,h2,h3,h4⟩
    ·rw[e] at hgo
     refine Cand.offer (Q:=chg0 (g.r x.to) V) (l:=l) (x:=x) G.n1 (by rw[←hto,upd_same,hgo]) (fun y hy=>by rw[hgo];exact hy) ⟨hc.1,hc.2.1.trans hto,hc.2.2.1⟩ ?_ hc.2.2.2.2.2.1 ?_ hm ?_ hof' (hoth _ fun e1=>Z18)
     ·rw[hc.2.2.2.1,hto];exact C.nb
     ·rw[hc.2.2.2.2.2.2.2.1,if_pos hto.symm,hto,upd_same];rfl
     ·rw[hc.2.2.2.2.2.2.1];exact hao x.to hi
    ·
      have hb:(begin_ (chg0 (g.r x.to) V)).vw=V:=h2.trans hc.1
      have hbn:(begin_ (chg0 (g.r x.to) V)).n=g.n:=by
       rw[←hc.2.2.1]
       exact(mo_begin _).n
      have hgo2:Vw.take (g.r x.to) x.m=start (begin_ (chg0 (g.r x.to) V)) [x.m.fr]:=by
       rw[hgo]
       unfold offerM
       rw[if_neg (by rw[h1];omega),leads_yes (by rw[hb,hbn,h3,hc.2.1,←hto]) h1]
       rfl
      rw[start_eq] at hgo2
      refine .inr ⟨by rw[←hto,upd_same,hgo2];exact hb,by rw[←hto,upd_same,hgo2];exact h1,fun k hk1 hne=> ?_⟩
      obtain⟨y,y1,y2,y3,y4⟩:=h4 k (by rw[hc.2.2.1];exact hk1) (by rw[hc.2.1,hto];exact hne)
      exact .inr (.inl ⟨y,List.mem_append_right _ (by rw[hgo2];exact List.mem_append_left _ y1),y2,y3.trans hc.1,.inr y4⟩)
   ·rw[if_neg hv] at hgo
    have hev:(g.r x.to).vw=V:=by omega
    refine Cand.offer (Q:=g.r x.to) (l:=l) (x:=x) G.n1 (by rw[←hto,upd_same,hgo]) (fun y hy=>by rw[hgo];exact hy) ⟨hev,ri.id.trans hto,ri.nn⟩ ?_ (C.st G hi hev).1 ?_ ?_ (hao x.to hi) hof' (hoth _ fun _=>rfl)
    ·rw[hto];exact C.nb
    ·have:=C.own (by rw[←hto];exact hev)
     rw[←hto] at this
     rw[←hto];exact this
    ·have:=C.nm (by rw[←hto];exact hev)
     rw[←hto] at this
     exact this
end Go.Proofs.YtdmjegelcdghlaaGreat.Vw
namespace Go.Proofs.YtdmjegelcdghlaaGreat
theorem Z56 {p:Prop}(h:p:=by
 rcases X.kd with g1|g1|g1|g1|g1
 ·exact g1.2.2.2.1
 ·have:=g1.1;omega
 ·have:=g1.1;omega
 ·have:=g1.1;omega
 ·exact g1.2.2.2.2.1):p:=h
end Go.Proofs.YtdmjegelcdghlaaGreat
namespace Go.Proofs.YtdmjegelcdghlaaGreat.Vw
variable {O:Type}
variable {N:Nat} {ok:O→Bool} {h h':Gh O} {g:Gp O} {V:Nat}
def LeadX (V n:Nat)(r:Nat→Rp O):Prop:=(r (V % n)).vw=V∧(r (V % n)).st=0
theorem begin_idle (r:Rp O):(begin_ r).idle=r.idle:=by
 exact Z101
def N15 (r r':Rp O):Prop:= ∀x∈r'.out,x∈r.out∨(x.m.kd≠1∧x.m.kd≠5)∨(r'.st=0∧x.m.vw=r'.vw∧x.m.fr=r'.id)
theorem N15.same {r r':Rp O}(e:r'.out=r.out):N15 r r':=fun x hx=> .inl (e▸hx)
theorem N15.trans {r r1 r2:Rp O}(a:N15 r r1)(b:N15 r1 r2)(hs:r1.st=0→r2.st=0∧r2.vw=r1.vw∧r2.id=r1.id):N15 r r2:=fun x hx=>by
 rcases b x hx with h1|h1|h1
 ·rcases a x h1 with h2|h2|⟨h2,h3,h4⟩
  ·exact .inl h2
  ·exact .inr (.inl h2)
  ·obtain⟨e1,e2,e3⟩:=hs h2
   exact .inr (.inr ⟨e1,by rw[h3,e2],by rw[h4,e3]⟩)
 ·exact .inr (.inl h1)
 ·exact .inr (.inr h1)
theorem N15.send (f:Rp O→Nat→Ms O)(r:Rp O)(ks:List Nat)(hk:(∀k,(f r k).kd≠1∧(f r k).kd≠5)∨r.st=0):N15 r {r with out:=r.out++msTo f r ks}:=fun x hx=>by
 rcases List.mem_append.1 hx with h1|h1
 ·exact .inl h1
 ·obtain⟨k,_,rfl⟩:=List.mem_map.1 h1
  rcases hk with hk|hk
  ·exact .inr (.inl (hk k))
  ·exact .inr (.inr ⟨hk,rfl,rfl⟩)
theorem N15.snd1 (m:Ms O)(r:Rp O)(k:Nat)(hk:m.kd≠1∧m.kd≠5):N15 r (snd1 m r k):=by rw[snd1_eq];exact N15.send _ _ _ (.inl fun _=>hk)
theorem N15.sndL (m:Ms O)(r:Rp O)(ks:List Nat)(hk:m.kd≠1∧m.kd≠5):N15 r (sndL m r ks):=by rw[sndL_eq];exact N15.send _ _ _ (.inl fun _=>hk)
theorem N15.start (r:Rp O)(ks:List Nat)(hs:r.st=0):N15 r (start r ks):=by rw[start_eq];exact N15.send _ _ _ (.inr hs)
theorem N15.begin_ (r:Rp O):N15 r (begin_ r):=by
 unfold Vw.begin_
 split
 ·split
  ·exact N15.same rfl
  ·rename_i o _
   dsimp only
   rw[start_eq]
   intro x hx
   rcases List.mem_append.1 hx with h1|h1
   ·exact .inl h1
   ·obtain⟨k,_,rfl⟩:=List.mem_map.1 h1
    exact .inr (.inr ⟨rfl,rfl,rfl⟩)
 ·exact N15.same rfl
theorem N15.change (r:Rp O)(v:Nat):N15 r (change r v):=by
 unfold Vw.change offer
 have h1:N15 r (turn r v):=N15.same rfl
 have h2:=h1.trans (N15.sndL (mKd 3) (turn r v) (List.range r.n) ⟨by show(3:Nat)≠1;omega,by show(3:Nat)≠5;omega⟩) (fun e=>absurd e Z153)
 have h3:=h2.trans (N15.snd1 (mOffer (Vw.sndL (mKd 3) (turn r v) (List.range r.n))) _ (prm (Vw.sndL (mKd 3) (turn r v) (List.range r.n))) ⟨by show(4:Nat)≠1;omega,by show(4:Nat)≠5;omega⟩) (fun e=>by rw[sndL_eq] at e;exact absurd e Z153)
 refine h3.trans (N15.begin_ _) (fun e=> ?_)
 rw[snd1_eq,sndL_eq] at e
 exact absurd e Z153
theorem N15.offerM (r:Rp O)(m:Ms O):N15 r (offerM r m)∧(r.st=0→(Vw.offerM r m).st=0∧(Vw.offerM r m).vw=r.vw∧(Vw.offerM r m).id=r.id):=by
 unfold Vw.offerM
 split
 ·rename_i hc
  refine⟨?_,fun e=>Z18⟩
  have h1:N15 r {r with offs:=upd r.offs m.fr (some ⟨m.nr,m.ao,m.cm,m.ops⟩)}:=N15.same rfl
  exact h1.trans (N15.begin_ _) fun e=>by have:r.st=0:=e;omega
 ·split
  ·rename_i hl
   have hst:r.st=0:=by
    unfold leads at hl
    simp only[Bool.and_eq_true,decide_eq_true_eq] at hl
    exact hl.1
   exact⟨N15.start r [m.fr] hst,fun e=>by rw[start_eq];exact⟨e,rfl,rfl⟩⟩
  ·exact⟨N15.same rfl,fun e=>⟨e,rfl,rfl⟩⟩
theorem leads_st {r:Rp O}(hl:leads r=true):r.st=0:=by
 unfold leads at hl
 simp only[Bool.and_eq_true,decide_eq_true_eq] at hl
 exact hl.1
theorem N15.take (r:Rp O)(m:Ms O):N15 r (take r m):=by
 unfold Vw.take
 split
 ·split
  ·exact N15.snd1 _ _ _ ⟨by show(3:Nat)≠1;omega,by show(3:Nat)≠5;omega⟩
  ·exact N15.same rfl
 split
 ·have hp: ∀q:Rp O,N15 q (prepare q m):=fun q=>by
   unfold prepare report
   split
   ·have h1:N15 q (prep1 q m):=by
     refine N15.same ?_
     exact Z121
    have h2:N15 (prep1 q m) (prep2 (prep1 q m) m):=N15.same rfl
    exact(h1.trans h2 fun e=>⟨e,rfl,rfl⟩).trans (N15.snd1 _ _ _ ⟨by show(2:Nat)≠1;omega,by show(2:Nat)≠5;omega⟩) fun e=>by rw[snd1_eq];exact⟨e,rfl,rfl⟩
   ·exact N15.snd1 _ _ _ ⟨by show(6:Nat)≠1;omega,by show(6:Nat)≠5;omega⟩
  split
  ·intro x hx
   rcases hp (turn r m.vw) x hx with a|a
   ·exact .inl a
   ·exact .inr a
  ·exact hp r
 split
 ·split
  ·exact N15.same rfl
  ·split
   ·exact N15.same rfl
   ·exact N15.same rfl
 split
 ·split
  ·exact N15.change _ _
  ·split
   ·rename_i hl
    exact N15.start _ _ (leads_st hl)
   ·exact N15.same rfl
 split
 ·split
  ·exact(N15.change r m.vw).trans (N15.offerM _ m).1 (N15.offerM _ m).2
  ·exact(N15.offerM r m).1
 split
 ·unfold begunM report
  have h2: ∀q:Rp O,N15 q (Vw.snd1 (mHave q) q m.fr):=fun q=>N15.snd1 _ _ _ ⟨by show(2:Nat)≠1;omega,by show(2:Nat)≠5;omega⟩
  split
  ·intro x hx
   exact h2 {r with st:=0,idle:=0} x hx
  ·split
   ·exact N15.same rfl
   ·intro x hx
    exact h2 (save (begunM1 r m) (max m.ao r.bs)) x hx
 split
 ·split
  ·exact N15.same rfl
  ·split
   ·rename_i hl
    exact N15.start _ _ (leads_st hl)
   ·exact N15.same rfl
 ·exact N15.same rfl
theorem N15.tick (r:Rp O):N15 r (tick r):=by
 unfold Vw.tick
 split
 ·rename_i hl
  rw[tell_eq]
  exact N15.send _ _ _ (.inr (leads_st hl))
 ·dsimp only
  split
  ·intro x hx
   exact N15.change {r with idle:=r.idle+1} (r.vw+1) x hx
  ·split
   ·rename_i hs
    unfold offer
    have h1:N15 r {r with idle:=r.idle+1}:=N15.same rfl
    have h2:=h1.trans (N15.sndL (mKd 3) {r with idle:=r.idle+1} (List.range r.n) ⟨by show(3:Nat)≠1;omega,by show(3:Nat)≠5;omega⟩) (fun e=>by rw[sndL_eq];exact⟨e,rfl,rfl⟩)
    exact h2.trans (N15.snd1 _ _ _ ⟨by show(4:Nat)≠1;omega,by show(4:Nat)≠5;omega⟩) (fun e=>by rw[snd1_eq];exact⟨e,rfl,rfl⟩)
   ·exact N15.same rfl
theorem wait_take {r:Rp O}{m:Ms O}(hm:m.vw≤r.vw)(hk:m.vw=r.vw→m.kd≠1∧m.kd≠5):(take r m).vw=r.vw∧(take r m).idle=r.idle:=by
 unfold take
 split
 ·split
  ·rw[snd1_eq];exact⟨rfl,rfl⟩
  ·exact⟨rfl,rfl⟩
 rename_i hnv
 have hk':=hk Z18
 rw[if_neg hk'.1]
 split
 ·split
  ·exact⟨rfl,rfl⟩
  ·split<;>exact⟨rfl,rfl⟩
 split
 ·rw[if_neg Z18]
  split
  ·rw[start_eq];exact⟨rfl,rfl⟩
  ·exact⟨rfl,rfl⟩
 split
 ·rw[if_neg Z18,offerM_vw]
  refine⟨rfl,?_⟩
  unfold offerM
  split
  ·rw[begin_idle]
  ·exact Z129
 rw[if_neg hk'.2]
 split
 ·split
  ·exact⟨rfl,rfl⟩
  ·split
   ·rw[start_eq];exact⟨rfl,rfl⟩
   ·exact⟨rfl,rfl⟩
 ·exact⟨rfl,rfl⟩
def Wt (V n j t:Nat)(r:Nat→Rp O)(way:List (Sd O)):Prop:=LeadX V n r∨((r j).vw=V∧t≤(r j).idle∧ ∀x∈way,x.m.vw=V→x.m.kd≠1∧x.m.kd≠5)
theorem lead_new {n i:Nat}{vw:Nat→Nat}{R1:Nat→Rp O}{x:Sd O}(X:MI n ok h vw x)(hk:x.m.kd=1∨x.m.kd=5)(hv:x.m.vw=V)(h1:(R1 i).st=0)(h2:x.m.vw=(R1 i).vw)(h3:x.m.fr=i):LeadX V n R1:=by
 have e:i=V % n:=by
  rw[←h3,←hv]
  exact Z56
 unfold LeadX
 rw[←e]
 exact⟨Z18,h1⟩
theorem Wt.take (G:GI ok N h g)(T:Top V g){j t:Nat}(L:Wt V g.n j t g.r g.way){x:Sd O}{l:List (Sd O)}(hw:g.way=x::l)(G':GI ok N h' (evTake g 0 x)):Wt V g.n j t (evTake g 0 x).r (evTake g 0 x).way:=by
 have hx:x∈g.way:=by rw[hw];exact List.mem_cons_self
 have X:=G.wy x hx
 have hmv:=G.msv T hx
 have hPn:V % g.n<g.n:=Nat.mod_lt _ G.n1
 have hmem: ∀y∈(evTake g 0 x).way,MI g.n ok h' (fun k=>((evTake g 0 x).r k).vw) y:=G'.wy
 rw[evTake_way hw] at hmem⊢
 rw[evTake_r] at hmem⊢
 have ri:=G.rep X.to
 rcases L with⟨l1,l2⟩|⟨l1,l2,l3⟩
 ·left
  unfold LeadX
  by_cases e:V % g.n=x.to
  ·have hid:(g.r x.to).vw %(g.r x.to).n=(g.r x.to).id:=by rw[ri.nn,ri.id,←e,l1]
   have h1:=lead_take (r:=g.r x.to) (m:=x.m) (by rw[←e];exact l2) hid (by rw[←e,l1];exact hmv) (fun e2=>X.notP (by rw[e2,←e,l1]))
   rw[e,upd_same]
   exact⟨h1.1.trans (by rw[←e];exact l1),h1.2.1⟩
  ·rw[upd_ne _ _ e];exact⟨l1,l2⟩
 ·refine Classical.or_iff_not_imp_left.2 fun hno=>⟨?_,?_,fun y hy hyv=> ?_⟩
  ·by_cases e:j=x.to
   ·rw[e,upd_same]
    rw[e] at l1
    have h1:=wait_take (r:=g.r x.to) (m:=x.m) Z18 (fun e2=>l3 x hx Z18)
    exact h1.1.trans l1
   ·rw[upd_ne _ _ e];exact l1
  ·by_cases e:j=x.to
   ·rw[e,upd_same]
    rw[e] at l1 l2
    have h1:=wait_take (r:=g.r x.to) (m:=x.m) Z18 (fun e2=>l3 x hx Z18)
    show t≤(Vw.take (g.r x.to) x.m).idle
    rw[h1.2];exact l2
   ·rw[upd_ne _ _ e];exact l2
  ·have hMI:=hmem y hy
   rcases List.mem_append.1 hy with hy'|hy'
   ·exact l3 y (by rw[hw];exact List.mem_cons_of_mem _ hy') hyv
   ·rcases N15.take (g.r x.to) x.m y hy' with a|a|⟨a1,a2,a3⟩
    ·rw[(G.em x.to X.to).2.1] at a;cases a
    ·exact a
    ·refine Classical.byContradiction fun hk=>hno ?_
     have hk':y.m.kd=1∨y.m.kd=5:=by omega
     have hid:(Vw.take (g.r x.to) x.m).id=x.to:=by
      have h1:=(G'.rep (i:=x.to) X.to).id
      rw[evTake_r,upd_same] at h1
      exact h1
     refine lead_new (i:=x.to) hMI hk' hyv ?_ ?_ (a3.trans hid)
     ·rw[upd_same];exact a1
     ·rw[upd_same];exact a2
end Go.Proofs.YtdmjegelcdghlaaGreat.Vw
namespace Go.Proofs.YtdmjegelcdghlaaGreat
theorem Z147 {p:Prop}(h:p:=by
 by_cases e1:(V+1)% g.n=i
 ·rw[e1] at e;omega
 ·rw[upd_ne _ _ e1];exact⟨rfl,rfl,rfl⟩):p:=h
theorem Z130 {p:Prop}(h:p:=by
 obtain⟨y,y1,y2,y3,y4,y5⟩:=hc.2.2.2.2.2.2.2.2.2.1 hP
 exact⟨y,hout y y1,y2,y3.trans ek.symm,y4,y5⟩):p:=h
end Go.Proofs.YtdmjegelcdghlaaGreat
namespace Go.Proofs.YtdmjegelcdghlaaGreat.Vw
variable {O:Type}
variable {N:Nat} {ok:O→Bool} {h h':Gh O} {g:Gp O} {V:Nat}
theorem evTick_r (g:Gp O)(i:Nat):(evTick g i).r=upd g.r i (clr (tick (g.r i))):=now_r _ _ _
theorem evTick_way (g:Gp O)(i:Nat):(evTick g i).way=g.way++(tick (g.r i)).out:=now_way _ _ _
theorem Cand.moved (G:GI ok N h g)(C:Cand V g.n h g.r g.way){i:Nat}(hi:i<g.n)(hv:(g.r i).vw<V){q:Rp O}(hq:q.n=g.n∧q.id=i∧q.nr=(g.r i).nr){R1:Nat→Rp O}{out:List (Sd O)}(hR:R1=upd g.r i (clr (change q V)))
 (hee:Ext g.n h h' fun k=>(g.r k).vw) (hvv: ∀k,k<g.n→(g.r k).vw≤(R1 k).vw) (hout: ∀y∈(change q V).out,y∈out) (hway: ∀y∈g.way,y∈out):Cand V g.n h' R1 out∨Led V g.n R1 out:=by
 have hc:=chg0_is q V
 rw[hq.1,hq.2.1] at hc
 subst hR
 by_cases hP:V % g.n=i
 ·refine Cand.at (way:=g.way) G.n1 (R:=g.r) (q:=chg0 q V) (by rw[hP,upd_same,change_is]) ⟨hc.1,hc.2.1.trans hP.symm,hc.2.2.1⟩ ?_ ?_ (fun y hy=>hout y (by rw[change_is];exact hy)) fun hb k hk1 hne=> ?_
  ·rw[hc.2.2.2.1,hq.2.2,←hP];exact C.nb
  ·exact Z158
  ·rw[upd_ne _ _ (by rw[←hP];exact hne)]
   rcases C.each k hk1 with⟨a,y,y1,y2⟩|⟨a,b⟩
   ·exact .inl ⟨a,y,hway y y1,y2⟩
   ·refine .inr ⟨a,?_⟩
    rcases b hne with⟨y,y1,y2⟩|⟨b1,b2⟩
    ·exact .inl ⟨y,hway y y1,y2⟩
    ·rw[hP] at b1;omega
 ·have hgo2:change q V=chg0 q V:=change_out (by rw[hq.1,hq.2.1];exact hP)
  rw[hgo2] at hout hvv⊢
  refine .inl ⟨?_,fun e=> ?_,fun e=> ?_,fun k hk1=> ?_⟩
  ·rw[upd_ne _ _ hP];exact C.nb
  ·rw[upd_ne _ _ hP] at e⊢;exact C.nm e
  ·rw[upd_ne _ _ hP] at e⊢;exact C.own e
  ·by_cases ek:k=i
   ·refine .inr ⟨?_,fun _=> .inl ?_⟩
    ·rw[ek,upd_same];exact hc.1
    ·exact Z130
   ·rcases C.each k hk1 with⟨a,y,y1,y2⟩|⟨a,b⟩
    ·exact .inl ⟨by rw[upd_ne _ _ ek];exact a,y,hway y y1,y2⟩
    ·refine .inr ⟨by rw[upd_ne _ _ ek];exact a,fun hne=> ?_⟩
     rcases b hne with⟨y,y1,y2⟩|⟨b1,b2⟩
     ·exact .inl ⟨y,hway y y1,y2⟩
     ·exact Z99
theorem Cand.new (G:GI ok N h g)(T:Top V g){i:Nat}(hi:i<g.n){q:Rp O}(hq:q.n=g.n∧q.id=i∧q.nr=(g.r i).nr){R1:Nat→Rp O}{out:List (Sd O)}(hR:R1=upd g.r i (clr (change q (V+1))))(hout: ∀y∈(change q (V+1)).out,y∈out):
 Cand (V+1) g.n h' R1 out∨Led (V+1) g.n R1 out:=by
 have hc:=chg0_is q (V+1)
 rw[hq.1,hq.2.1] at hc
 subst hR
 have hnr: ∀k,k<g.n→(g.r k).nr<V+1:=fun k hk=>by
  have h1:(g.r k).nr≤(g.r k).vw:=G.al.core.le k hk
  have:=T k hk
  omega
 have hPn:(V+1)% g.n<g.n:=Nat.mod_lt _ G.n1
 by_cases hP:(V+1)% g.n=i
 ·have hbo: ∀y∈(chg0 q (V+1)).out,y∈(begin_ (chg0 q (V+1))).out:=fun y hy=>by
   unfold begin_
   split
   ·split
    ·exact hy
    ·dsimp only
     rw[start_eq]
     exact List.mem_append_left _ hy
   ·exact hy
  refine Cand.at (way:=g.way) G.n1 (R:=g.r) (q:=chg0 q (V+1)) (by rw[hP,upd_same,change_is]) ⟨hc.1,hc.2.1.trans hP.symm,hc.2.2.1⟩ ?_ ?_ (fun y hy=>hout y (by rw[change_is];exact hy)) fun hb k hk1 hne=> ?_
  ·rw[hc.2.2.2.1,hq.2.2];exact hnr i hi
  ·exact Z158
  ·rw[upd_ne _ _ (by rw[←hP];exact hne)]
   obtain⟨y,y1,y2,y3,y4,_⟩:=hc.2.2.2.2.2.2.2.2.1 k hk1 (by rw[←hP];exact hne)
   exact .inl ⟨by have:=T k hk1;omega,y,hout y (by rw[change_is];exact hbo y y1),y2,.inl y3,y4⟩
 ·have hgo2:change q (V+1)=chg0 q (V+1):=change_out (by rw[hq.1,hq.2.1];exact hP)
  rw[hgo2] at hout⊢
  have hvP:(g.r ((V+1)% g.n)).vw≤V:=T _ hPn
  refine .inl ⟨?_,fun e=> ?_,fun e=> ?_,fun k hk1=> ?_⟩
  ·rw[upd_ne _ _ hP];exact hnr _ hPn
  ·rw[upd_ne _ _ hP] at e;omega
  ·rw[upd_ne _ _ hP] at e;omega
  ·by_cases ek:k=i
   ·refine .inr ⟨by rw[ek,upd_same];exact hc.1,fun _=> .inl ?_⟩
    exact Z130
   ·obtain⟨y,y1,y2,y3,y4,_⟩:=hc.2.2.2.2.2.2.2.2.1 k hk1 ek
    exact .inl ⟨by rw[upd_ne _ _ ek];have:=T k hk1;omega,y,hout y y1,y2,.inl y3,y4⟩
theorem tick_cases (r:Rp O):(leads r=true∧tick r=tell r)∨(leads r=false∧4+r.id≤r.idle+1∧r.vw<TM∧tick r=change {r with idle:=r.idle+1} (r.vw+1))∨
 (leads r=false∧ ¬(4+r.id≤r.idle+1∧r.vw<TM)∧ ∃o,tick r= {r with idle:=r.idle+1,out:=o} ∧ ∀x∈r.out,x∈o):=by
 unfold tick
 split
 ·rename_i hl;exact .inl ⟨hl,rfl⟩
 ·rename_i hl
  have hl':leads r=false:=by simpa using hl
  dsimp only
  split
  ·rename_i h1;exact .inr (.inl ⟨hl',h1.1,h1.2,rfl⟩)
  ·rename_i h1
   refine .inr (.inr ⟨hl',h1,?_⟩)
   split
   ·unfold offer
    rw[snd1_eq,sndL_eq]
    exact⟨_,rfl,fun x hx=>List.mem_append_left _ (List.mem_append_left _ hx)⟩
   ·exact⟨r.out,rfl,fun x hx=>hx⟩
def tickTo:Nat→Gp O→Gp O
 |0,g=>g
 |i+1,g=>evTick (tickTo i g) i
structure TI (V j t i:Nat)(h:Gh O)(g0 g:Gp O):Prop where
 n:g.n=g0.n
 un: ∀k,i≤k→g.r k=g0.r k
 top:Top (V+1) g
 m:Cand (V+1) g.n h g.r g.way∨Led (V+1) g.n g.r g.way∨(Top V g∧(LeadX V g.n g0.r→LeadX V g.n g.r∧(V % g.n<i→ ∀k,k<g.n→k≠V % g.n→ ∃x∈g.way,x.to=k∧x.m.vw=V∧x.m.kd=1))∧
  (¬LeadX V g.n g0.r→Wt V g.n j (t+if j<i then 1 else 0) g.r g.way∧(j<i→ ¬(4+j≤(g0.r j).idle+1))))
theorem TI.tick {j t i:Nat}{g0:Gp O}(hV:V<TM)(I:TI V j t i h g0 g)(T0:Top V g0)(hjv: ¬LeadX V g.n g0.r→(g0.r j).vw=V∧t≤(g0.r j).idle)(G:GI ok N h g)(hi:i<g.n)(G':GI ok N h' (evTick g i))(E:Gon g.n h h' g (evTick g i)):TI V j t (i+1) h' g0 (evTick g i):=by
 have ri:=G.rep hi
 have hvi:(g.r i).vw≤V:=by rw[I.un i (Nat.le_refl _)];exact T0 i (I.n▸hi)
 have hee:=E.ee
 have hvv:=E.vv
 have hout0:=(G.em i hi).2.1
 have hPn:V % g.n<g.n:=Nat.mod_lt _ G.n1
 have hMI: ∀y∈(evTick g i).way,MI g.n ok h' (fun k=>((evTick g i).r k).vw) y:=G'.wy
 rw[evTick_way] at hMI
 have hW: ∀y∈g.way,y∈g.way++(Vw.tick (g.r i)).out:=fun y hy=>List.mem_append_left _ hy
 have hN: ∀y∈(Vw.tick (g.r i)).out,y∈g.way++(Vw.tick (g.r i)).out:=fun y hy=>List.mem_append_right _ hy
 have htv:(Vw.tick (g.r i)).vw=(g.r i).vw∨(leads (g.r i)=false∧4+i≤(g.r i).idle+1∧Vw.tick (g.r i)=change {g.r i with idle:=(g.r i).idle+1} ((g.r i).vw+1)):=by
  rcases tick_cases (g.r i) with⟨_,e⟩|⟨h0,h1,h2,e⟩|⟨_,_,o,e,_⟩
  ·left;rw[e,tell_eq]
  ·rw[ri.id] at h1
   exact .inr ⟨h0,h1,e⟩
  ·left;rw[e]
 refine⟨I.n,fun k hk=> ?_,fun k hk=> ?_,?_⟩
 ·rw[evTick_r,upd_ne _ _ Z18];exact I.un k Z18
 ·rw[evTick_r]
  by_cases e:k=i
  ·rw[e,upd_same]
   show(Vw.tick (g.r i)).vw≤V+1
   rcases htv with a|⟨_,_,a⟩
   ·omega
   ·rw[a,change_vw];omega
  ·rw[upd_ne _ _ e];exact I.top k hk
 show Cand (V+1) g.n h' (evTick g i).r (evTick g i).way∨Led (V+1) g.n (evTick g i).r (evTick g i).way∨_
 rw[evTick_r] at hvv⊢
 rw[evTick_way]
 rcases I.m with C|L|⟨T,M1,M2⟩
 ·
   rcases htv with a|⟨_,_,a⟩
   ·refine .inl (C.keep G.n1 hee hvv ⟨?_,fun e=> ?_⟩ (fun k hk=> ?_) (fun y hy _ _=> .inl (hW y hy)))
    ·by_cases e:(V+1)% g.n=i
     ·have h1:=G'.al.core.le i hi
      have h2:((evTick g i).r i).nr≤((evTick g i).r i).vw:=h1
      rw[evTick_r,upd_same] at h2
      rw[e,upd_same]
      have h3:(clr (Vw.tick (g.r i))).vw=(g.r i).vw:=a
      omega
     ·rw[upd_ne _ _ e];exact C.nb
    ·exact Z147
    ·by_cases e:k=i
     ·rw[e,upd_same]
      show _∧((g.r i).vw=V+1→(Vw.tick (g.r i)).vw=V+1)
      exact⟨fun _=>(by show(Vw.tick (g.r i)).vw<_;omega),fun _=>Z18⟩
     ·rw[upd_ne _ _ e];exact⟨fun a=>a,fun a=>a⟩
   ·by_cases e:(g.r i).vw+1=V+1
    ·rw[e] at a
     rcases C.moved (h':=h') G hi Z18 (q:= {g.r i with idle:=(g.r i).idle+1}) ⟨ri.nn,ri.id,rfl⟩ (R1:=upd g.r i (clr (Vw.tick (g.r i)))) (out:=g.way++(Vw.tick (g.r i)).out) (by rw[a]) hee hvv (fun y hy=>hN y (by rw[a];exact hy)) hW with c|c
     ·exact .inl c
     ·exact .inr (.inl c)
    ·have hv':(Vw.tick (g.r i)).vw<V+1:=by rw[a,change_vw];omega
     refine .inl (C.keep G.n1 hee hvv ⟨?_,fun e=> ?_⟩ (fun k hk=> ?_) (fun y hy _ _=> .inl (hW y hy)))
     ·by_cases e:(V+1)% g.n=i
      ·have h2:((evTick g i).r i).nr≤((evTick g i).r i).vw:=G'.al.core.le i hi
       rw[evTick_r,upd_same] at h2
       rw[e,upd_same]
       have h3:(clr (Vw.tick (g.r i))).vw=(Vw.tick (g.r i)).vw:=rfl
       omega
      ·rw[upd_ne _ _ e];exact C.nb
     ·exact Z147
     ·by_cases e:k=i
      ·rw[e,upd_same]
       exact⟨fun _=>hv',fun _=>Z18⟩
      ·rw[upd_ne _ _ e];exact⟨fun a=>a,fun a=>a⟩
 ·
   refine .inr (.inl ⟨?_,?_,fun k hk hne=> ?_⟩)
   ·rw[upd_ne _ _ (fun e=>by have:=L.pv;rw[e] at this;omega)];exact L.pv
   ·rw[upd_ne _ _ (fun e=>by have:=L.pv;rw[e] at this;omega)];exact L.ps
   ·rcases L.each k hk hne with a|⟨y,y1,y2⟩|⟨y,y1,y2⟩
    ·by_cases e:k=i
     ·have h1:(g.r i).nr≤(g.r i).vw:=G.al.core.le i hi
      have h2:=a.1
      rw[e] at h2
      omega
     ·left;rw[upd_ne _ _ e];exact a
    ·exact .inr (.inl ⟨y,hW y y1,y2⟩)
    ·exact .inr (.inr ⟨y,hW y y1,y2⟩)
 ·by_cases hraise: ∃e:(g.r i).vw=V,Vw.tick (g.r i)=change {g.r i with idle:=(g.r i).idle+1} (V+1)
  ·obtain⟨_,a⟩:=hraise
   rcases Cand.new (h':=h') G T hi (q:= {g.r i with idle:=(g.r i).idle+1}) ⟨ri.nn,ri.id,rfl⟩ (R1:=upd g.r i (clr (Vw.tick (g.r i)))) (out:=g.way++(Vw.tick (g.r i)).out) (by rw[a]) (fun y hy=>hN y (by rw[a];exact hy)) with c|c
   ·exact .inl c
   ·exact .inr (.inl c)
  ·have hv':(Vw.tick (g.r i)).vw≤V:=by
    rcases htv with a|⟨_,_,a⟩
    ·omega
    ·rw[a,change_vw]
     rcases Nat.lt_or_ge (g.r i).vw V with h1|h1
     ·exact h1
     ·have e1:(g.r i).vw=V:=by omega
      rw[e1] at a
      exact absurd ⟨e1,a⟩ hraise
   refine .inr (.inr ⟨fun k hk=> ?_,fun hl=> ?_,fun hl=> ?_⟩)
   ·rw[evTick_r]
    by_cases e:k=i
    ·rw[e,upd_same];exact hv'
    ·rw[upd_ne _ _ e];exact T k hk
   ·
     obtain⟨⟨m1,m2⟩,m3⟩:=M1 hl
     by_cases e:V % g.n=i
     ·rw[e] at m1 m2
      have hlead:leads (g.r i)=true:=leads_yes (by rw[m1,ri.nn,ri.id];exact e) m2
      have hgo:Vw.tick (g.r i)=tell (g.r i):=by unfold Vw.tick;rw[if_pos hlead]
      rw[hgo,tell_eq]
      refine⟨?_,fun _ k hk hne=> ?_⟩
      ·unfold LeadX
       show(upd g.r i _ (V % g.n)).vw=V∧(upd g.r i _ (V % g.n)).st=0
       rw[e,upd_same];exact⟨m1,m2⟩
      ·refine⟨⟨k,{mPrep (g.r i) k with fr:=(g.r i).id,vw:=(g.r i).vw}⟩,List.mem_append_right _ (List.mem_append_right _ (mem_msTo (List.mem_range.2 (by rw[ri.nn];exact hk)) (by rw[ri.id,←e];exact hne))),rfl,m1,rfl⟩
     ·refine⟨?_,fun hlt k hk hne=> ?_⟩
      ·unfold LeadX
       show(upd g.r i _ (V % g.n)).vw=V∧(upd g.r i _ (V % g.n)).st=0
       rw[upd_ne _ _ e];exact⟨m1,m2⟩
      ·have hlt':V % g.n<i+1:=hlt
       obtain⟨x,x1,x2⟩:=m3 Z18 k hk hne
       exact⟨x,hW x x1,x2⟩
   ·
     obtain⟨hj1,hj2⟩:=hjv hl
     obtain⟨W,W2⟩:=M2 hl
     have hji:j=i→ ¬(4+j≤(g0.r j).idle+1):=fun e hle=>by
      have e0:=I.un i (Nat.le_refl _)
      rw[e] at hle hj1
      rw[←e0] at hle hj1
      rcases tick_cases (g.r i) with⟨h1,_⟩|⟨_,_,_,h4⟩|⟨_,h2,_⟩
      ·refine hl ?_
       have h5:=G.al.leads_nr hi h1
       show(g0.r (V % g.n)).vw=V∧(g0.r (V % g.n)).st=0
       rw[show V % g.n=i by rw[←hj1];exact h5.2.1,←e0]
       exact⟨hj1,h5.1⟩
      ·rw[hj1] at h4
       exact hraise ⟨hj1,h4⟩
      ·rw[ri.id,hj1] at h2
       exact h2 ⟨hle,hV⟩
     refine⟨?_,fun hlt=>by
      by_cases e:j=i
      ·exact hji e
      ·have:j<i+1:=hlt
       exact W2 Z18⟩
     refine Classical.or_iff_not_imp_left.2 fun hno=> ?_
     have hnoW: ∀y∈(Vw.tick (g.r i)).out,y.m.vw=V→y.m.kd≠1∧y.m.kd≠5:=fun y hy hyv=>by
      rcases N15.tick (g.r i) y hy with a|a|⟨a1,a2,a3⟩
      ·rw[hout0] at a;cases a
      ·exact a
      ·refine Classical.byContradiction fun hk=>hno ?_
       have hid:(Vw.tick (g.r i)).id=i:=by
        have h1:=(G'.rep (i:=i) hi).id
        rw[evTick_r,upd_same] at h1
        exact h1
       refine lead_new (i:=i) (hMI y (hN y hy)) Z18 hyv ?_ ?_ (a3.trans hid)
       ·rw[upd_same];exact a1
       ·rw[upd_same];exact a2
     rcases W with⟨l1,l2⟩|⟨l1,l2,l3⟩
     ·
       exfalso
       refine hno ?_
       unfold LeadX
       show(upd g.r i _ (V % g.n)).vw=V∧(upd g.r i _ (V % g.n)).st=0
       by_cases e:V % g.n=i
       ·rw[e] at l1 l2
        refine absurd ?_ hl
        show(g0.r (V % g.n)).vw=V∧(g0.r (V % g.n)).st=0
        rw[e,←I.un i (Nat.le_refl _)]
        exact⟨l1,l2⟩
       ·rw[upd_ne _ _ e];exact⟨l1,l2⟩
     ·refine⟨?_,?_,fun y hy hyv=> ?_⟩
      ·show(upd g.r i _ j).vw=V
       by_cases e:j=i
       ·rw[e,upd_same]
        have h1:=hvv i hi
        rw[upd_same] at h1
        rw[e] at l1
        have h2:(clr (Vw.tick (g.r i))).vw≤V:=hv'
        omega
       ·rw[upd_ne _ _ e];exact l1
      ·show t+(if j<i+1 then 1 else 0)≤(upd g.r i _ j).idle
       by_cases e:j=i
       ·rw[e,upd_same,if_pos Z18]
        show t+1≤(Vw.tick (g.r i)).idle
        rw[e,if_neg Z18] at l2
        rw[e] at l1
        rcases tick_cases (g.r i) with⟨h1,_⟩|⟨_,_,_,h4⟩|⟨_,_,o,h4,_⟩
        ·refine absurd ?_ hl
         have h5:=G.al.leads_nr hi h1
         show(g0.r (V % g.n)).vw=V∧(g0.r (V % g.n)).st=0
         rw[show V % g.n=i by rw[←l1];exact h5.2.1,←I.un i (Nat.le_refl _)]
         exact⟨l1,h5.1⟩
        ·rw[l1] at h4
         exact absurd ⟨l1,h4⟩ hraise
        ·rw[h4];show t+1≤(g.r i).idle+1;omega
       ·rw[upd_ne _ _ e]
        by_cases e2:j<i
        ·rw[if_pos Z18];rw[if_pos e2] at l2;exact l2
        ·rw[if_neg Z18];rw[if_neg e2] at l2;exact l2
      ·rcases List.mem_append.1 hy with hy|hy
       ·exact l3 y hy hyv
       ·exact hnoW y hy hyv
end Go.Proofs.YtdmjegelcdghlaaGreat.Vw
namespace Go.Proofs.YtdmjegelcdghlaaGreat
theorem Z92 {p:Prop}(h:p:=by
 rcases X.kd with g1|g1|g1|g1|g1
 ·have:=g1.1;omega
 ·have:=g1.1;omega
 ·have:=g1.1;omega
 ·have:=g1.1;omega
 ·have:=g1.1;omega):p:=h
end Go.Proofs.YtdmjegelcdghlaaGreat
namespace Go.Proofs.YtdmjegelcdghlaaGreat.Vw
variable {O:Type}
variable {N:Nat} {ok:O→Bool} {h h':Gh O} {g:Gp O} {V:Nat}
theorem Gon.trans {n:Nat}{h h1 h2:Gh O}{g g1 g2:Gp O}(a:Gon n h h1 g g1)(b:Gon n h1 h2 g1 g2):Gon n h h2 g g2:=⟨b.nn.trans a.nn,a.ee.trans b.ee a.vv,fun k hk=>Nat.le_trans (a.vv k hk) (b.vv k hk)⟩
def drain:Nat→Gp O→Gp O
 |0,g=>g
 |f+1,g=>match g.way with
  | []=>g
  |x::_=>drain f (evTake g 0 x)
theorem drain_nil (f:Nat){g:Gp O}(hw:g.way= []):drain f g=g:=by
 cases f with
 |zero=>rfl
 |succ f=>rw[drain,hw]
theorem drain_cons (f:Nat){g:Gp O}{x:Sd O}{l:List (Sd O)}(hw:g.way=x::l):drain (f+1) g=drain f (evTake g 0 x):=by rw[drain,hw]
theorem drain_n: ∀(f:Nat) (g:Gp O),(drain f g).n=g.n
 |0,g=>rfl
 |f+1,g=>by
  cases hw:g.way with
  |nil=>rw[drain_nil _ hw]
  |cons x l=>rw[drain_cons _ hw,drain_n f];rfl
theorem drain_ind (hN:N≤TM)(P:Gh O→Gp O→Prop)(step: ∀(h h':Gh O) (g:Gp O) x l,GI ok N h g→P h g→g.way=x::l→GI ok N h' (evTake g 0 x)→Gon g.n h h' g (evTake g 0 x)→P h' (evTake g 0 x)):
 ∀(f:Nat) (h:Gh O) (g:Gp O),GI ok N h g→P h g→ ∃h',GI ok N h' (drain f g)∧Gon g.n h h' g (drain f g)∧P h' (drain f g)
 |0,h,g,G,p=>⟨h,G,Gon.refl _ _ _ _ rfl rfl,p⟩
 |f+1,h,g,G,p=>by
  cases hw:g.way with
  |nil=>rw[drain_nil _ hw];exact⟨h,G,Gon.refl _ _ _ _ rfl rfl,p⟩
  |cons x l=>
   obtain⟨_,_,h1,G1,E1⟩:=G.take hN (k:=0) (x:=x) (by rw[hw];exact List.mem_cons_self)
   obtain⟨h2,G2,E2,p2⟩:=drain_ind hN P step f h1 (evTake g 0 x) G1 (step h h1 g x l G p hw G1 E1)
   rw[drain_cons _ hw]
   exact⟨h2,G2,E1.trans E2,p2⟩
def sumTo (f:Nat→Nat):Nat→Nat
 |0=>0
 |k+1=>sumTo f k+f k
theorem sumTo_upd (f:Nat→Nat)(i v:Nat): ∀n,i<n→sumTo (upd f i v) n+f i=sumTo f n+v
 |0,h=>by omega
 |n+1,h=>by
  unfold sumTo
  by_cases e:i=n
  ·subst e
   have: ∀m,m≤i→sumTo (upd f i v) m=sumTo f m:=fun m hm=>by
    induction m with
    |zero=>rfl
    |succ m ih=>unfold sumTo;rw[ih Z18,upd_ne _ _ Z18]
   rw[this i (Nat.le_refl _),upd_same];omega
  ·have:=sumTo_upd f i v n Z18
   rw[upd_ne _ _ Z18];omega
theorem sumTo_le (f:Nat→Nat)(b:Nat): ∀n,(∀k,k<n→f k≤b)→sumTo f n≤n*b
 |0,_=>by simp[sumTo]
 |n+1,h=>by
  have h1:=sumTo_le f b n fun k hk=>h k Z18
  have h2:=h n Z18
  unfold sumTo
  rw[Nat.succ_mul];omega
theorem sumTo_mono (f f':Nat→Nat)(b:Nat): ∀n,(∀k,k<n→f' k≤f k+b)→sumTo f' n≤sumTo f n+n*b
 |0,_=>by simp[sumTo]
 |n+1,h=>by
  have h1:=sumTo_mono f f' b n fun k hk=>h k Z18
  have h2:=h n Z18
  unfold sumTo
  rw[Nat.succ_mul];omega
def stp (V:Nat)(r:Rp O):Nat:=29*(V-r.vw)+(if r.st=1 then 10 else 0)
theorem ph_stp (V:Nat)(r:Rp O):ph V r=stp V r+wsum r.out:=rfl
def phi (V:Nat)(g:Gp O):Nat:=sumTo (fun k=>stp V (g.r k)) g.n+wsum g.way
theorem phi_now (V:Nat)(g:Gp O){i:Nat}(hi:i<g.n)(r:Rp O)(ho:(g.r i).out= []):phi V (g.now i r)+ph V (g.r i)=phi V g+ph V r:=by
 unfold phi
 rw[now_way,wsum_app]
 have h1:(fun k=>stp V ((g.now i r).r k))=upd (fun k=>stp V (g.r k)) i (stp V r):=by
  rw[now_r,upd_f]
  rfl
 have h2:=sumTo_upd (fun k=>stp V (g.r k)) i (stp V r) g.n hi
 have h3:ph V (g.r i)=stp V (g.r i):=by rw[ph_stp,ho];rfl
 rw[show(g.now i r).n=g.n from rfl,h1,h3,ph_stp]
 omega
theorem phi_take (G:GI ok N h g)(hn:g.n≤5)(T:Top V g){x:Sd O}{l:List (Sd O)}(hw:g.way=x::l):phi V (evTake g 0 x)+1≤phi V g:=by
 have hx:x∈g.way:=by rw[hw];exact List.mem_cons_self
 have X:=G.wy x hx
 have hk:1≤x.m.kd∧x.m.kd≤6:=by
  exact Z92
 have h1:=pw_take V (g.r x.to) x.m (by rw[(G.rep X.to).nn];exact hn) (G.msv T hx) hk
 have h2:=phi_now V (wayOut g 0) X.to (Vw.take (g.r x.to) x.m) (G.em x.to X.to).2.1
 have h3:phi V g=phi V (wayOut g 0)+wk x.m.kd:=by
  unfold phi
  rw[wayOut_0 hw,hw,wsum]
  show _=sumTo (fun k=>stp V (g.r k)) g.n+wsum l+wk x.m.kd
  omega
 have h4:ph V ((wayOut g 0).r x.to)=ph V (g.r x.to):=rfl
 show phi V ((wayOut g 0).now x.to (Vw.take (g.r x.to) x.m))+1≤_
 omega
theorem take_top (G:GI ok N h g)(T:Top V g){x:Sd O}{l:List (Sd O)}(hw:g.way=x::l):Top V (evTake g 0 x):=by
 have hx:x∈g.way:=by rw[hw];exact List.mem_cons_self
 have X:=G.wy x hx
 have hm:=G.msv T hx
 intro k hk
 rw[evTake_r]
 by_cases e:k=x.to
 ·rw[e,upd_same]
  show(Vw.take (g.r x.to) x.m).vw≤V
  have h1:=(take_old (V:=V+1) (g.r x.to) x.m Z18).1
  have h2:=T x.to X.to
  omega
 ·rw[upd_ne _ _ e];exact T k hk
theorem drain_end (hN:N≤TM): ∀(f:Nat) (h:Gh O) (g:Gp O),GI ok N h g→g.n≤5→Top V g→phi V g≤f→(drain f g).way= []
 |0,h,g,G,hn,T,hp=>by
  unfold phi at hp
  have:=wsum_len g.way
  exact List.eq_nil_of_length_eq_zero (by show g.way.length=0;omega)
 |f+1,h,g,G,hn,T,hp=>by
  cases hw:g.way with
  |nil=>rw[drain_nil _ hw];exact hw
  |cons x l=>
   obtain⟨_,_,h1,G1,_⟩:=G.take hN (k:=0) (x:=x) (by rw[hw];exact List.mem_cons_self)
   rw[drain_cons _ hw]
   exact drain_end hN f h1 _ G1 hn (take_top G T hw) (by have:=phi_take G hn T hw;omega)
theorem tickTo_n (i:Nat)(g:Gp O):(tickTo i g).n=g.n:=by
 induction i with
 |zero=>rfl
 |succ i ih=>exact ih
theorem tickTo_ind (hN:N≤TM)(P:Nat→Gh O→Gp O→Prop)(step: ∀(i:Nat) (h h':Gh O) (g:Gp O),i<g.n→GI ok N h g→P i h g→GI ok N h' (evTick g i)→Gon g.n h h' g (evTick g i)→P (i+1) h' (evTick g i))(h:Gh O)(g:Gp O)(G:GI ok N h g)(p:P 0 h g):
 ∀i,i≤g.n→ ∃h',GI ok N h' (tickTo i g)∧Gon g.n h h' g (tickTo i g)∧P i h' (tickTo i g)
 |0,_=>⟨h,G,Gon.refl _ _ _ _ rfl rfl,p⟩
 |i+1,hi=>by
  obtain⟨h1,G1,E1,p1⟩:=tickTo_ind hN P step h g G p i Z18
  have hi':i<(tickTo i g).n:=by rw[tickTo_n];omega
  obtain⟨h2,G2,E2⟩:=G1.tick hN hi'
  have E2':Gon g.n h1 h2 (tickTo i g) (evTick (tickTo i g) i):=by rw[tickTo_n] at E2;exact E2
  exact⟨h2,G2,E1.trans E2',step i h1 h2 _ hi' G1 p1 G2 E2⟩
theorem phi_tick (G:GI ok N h g)(hn:g.n≤5){i:Nat}(hi:i<g.n)(hv:(g.r i).vw+1≤V):phi V (evTick g i)≤phi V g+25:=by
 have h1:=(pw_tick V (g.r i) (by rw[(G.rep hi).nn];exact hn) hv).p
 have h2:=phi_now V g hi (Vw.tick (g.r i)) (G.em i hi).2.1
 show phi V (g.now i (Vw.tick (g.r i)))≤_
 omega
theorem phi_up (V:Nat)(g:Gp O):phi (V+1) g≤phi V g+g.n*29:=by
 unfold phi
 have:=sumTo_mono (fun k=>stp V (g.r k)) (fun k=>stp (V+1) (g.r k)) 29 g.n fun k hk=>by
  unfold stp;omega
 omega
theorem phi_nil (g:Gp O)(hw:g.way= [])(hn:g.n≤5):phi V g≤5*(29*V+10):=by
 unfold phi
 rw[hw]
 have h1:=sumTo_le (fun k=>stp V (g.r k)) (29*V+10) g.n fun k hk=>by
  show stp V (g.r k)≤_
  unfold stp
  split<;>omega
 have h2:g.n*(29*V+10)≤5*(29*V+10):=Nat.mul_le_mul_right _ hn
 show _+0≤_
 omega
def round (g:Gp O):Gp O:=drain 30000 (tickTo g.n g)
theorem round_n (g:Gp O):(round g).n=g.n:=by unfold round;rw[drain_n,tickTo_n]
theorem round_end (hN:N≤TM)(G:GI ok N h g)(hn:g.n≤5)(T:Top V g)(hp:phi V g≤29000):(round g).way= []∧ ∃h',GI ok N h' (round g)∧Gon g.n h h' g (round g)∧Top (V+1) (round g):=by
 have haux:=tickTo_ind hN (fun i h1 g1=>g1.n=g.n∧(∀k,k<g.n→i≤k→(g1.r k).vw≤V)∧Top (V+1) g1∧phi (V+1) g1≤phi V g+g.n*29+i*25) (by
  rintro i h1 h2 g1 hi G1 ⟨hgn,p1,p2,p3⟩ G2 E2
  have h3:=p1 i (hgn▸hi) (Nat.le_refl _)
  refine⟨hgn,fun k hk hik=> ?_,fun k hk=> ?_,?_⟩
  ·rw[evTick_r,upd_ne _ _ Z18];exact p1 k hk Z18
  ·rw[evTick_r]
   by_cases e:k=i
   ·rw[e,upd_same]
    show(Vw.tick (g1.r i)).vw≤V+1
    rcases tick_cases (g1.r i) with⟨_,e⟩|⟨_,_,_,e⟩|⟨_,_,o,e,_⟩
    ·rw[e,tell_eq];show(g1.r i).vw≤_;omega
    ·rw[e,change_vw];omega
    ·rw[e];show(g1.r i).vw≤_;omega
   ·rw[upd_ne _ _ e];exact p2 k hk
  ·have:=phi_tick (V:=V+1) G1 Z18 hi Z18
   omega) h g G ⟨rfl,fun k hk _=>T k hk,fun k hk=>Nat.le_succ_of_le (T k hk),by have:=phi_up V g;omega⟩ g.n (Nat.le_refl _)
 obtain⟨h1,G1,E1,p0,p1,p2,p3⟩:=haux
 have hphi:phi (V+1) (tickTo g.n g)≤30000:=by omega
 have hend:=drain_end hN 30000 h1 _ G1 (by rw[p0];exact hn) p2 hphi
 obtain⟨h2,G2,E2,p4⟩:=drain_ind hN (fun _ g1=>Top (V+1) g1) (fun h h' g x l G p hw _ _=>take_top G p hw) 30000 h1 _ G1 p2
 have E2':Gon g.n h1 h2 (tickTo g.n g) (drain 30000 (tickTo g.n g)):=by rw[tickTo_n] at E2;exact E2
 exact⟨hend,h2,G2,E1.trans E2',p4⟩
def AllDn (V:Nat)(g:Gp O):Prop:=LeadX V g.n g.r∧ ∀k,k<g.n→k≠V % g.n→Dn V (g.r k)
def D (V:Nat)(g:Gp O):Prop:=Top V g∧AllDn V g
theorem round_go {j t:Nat}(hN:N≤TM)(hV:V<TM)(G:GI ok N h g)(hn:g.n≤5)(T:Top V g)(hp:phi V g≤29000)(hj: ¬LeadX V g.n g.r→j<g.n∧(g.r j).vw=V∧t≤(g.r j).idle∧g.way= []):
 D (V+1) (round g)∨(LeadX V g.n g.r∧D V (round g))∨(¬LeadX V g.n g.r∧Top V (round g)∧(LeadX V g.n (round g).r∨((round g).r j).vw=V∧t+1≤((round g).r j).idle)∧ ¬(4+j≤(g.r j).idle+1)):=by
 obtain⟨hend,_⟩:=round_end hN G hn T hp
 have hrn:=round_n g
 obtain⟨h1,G1,E1,p0,I⟩:=tickTo_ind hN (fun i h1 g1=>g1.n=g.n∧TI V j t i h1 g g1) (by
  rintro i h1 h2 g1 hi G1 ⟨hgn,I⟩ G2 E2
  exact⟨hgn,I.tick hV T (fun hl=>by
   rw[hgn] at hl
   exact⟨(hj hl).2.1,(hj hl).2.2.1⟩) G1 hi G2 E2⟩) h g G ⟨rfl,rfl,fun _ _=>rfl,fun k hk=>Nat.le_succ_of_le (T k hk),.inr (.inr ⟨T,fun hl=>⟨hl,fun h0=>absurd h0 (Nat.not_lt_zero _)⟩,fun hl=>⟨.inr ⟨(hj hl).2.1,by rw[if_neg (Nat.not_lt_zero _)];exact(hj hl).2.2.1,fun x hx=>by rw[(hj hl).2.2.2] at hx;cases hx⟩,fun h0=>absurd h0 (Nat.not_lt_zero _)⟩⟩)⟩ g.n (Nat.le_refl _)
 have hdone: ∀ {V':Nat} {h2:Gh O},GI ok N h2 (round g)→Top V' (round g)→Led V' (round g).n (round g).r (round g).way→D V' (round g):=fun {V' h2} G2 T2 L=>by
  refine⟨T2,⟨L.pv,L.ps⟩,fun k hk hne=> ?_⟩
  rcases L.each k hk hne with a|⟨x,hx,_⟩|⟨x,hx,_⟩
  ·exact a
  ·rw[hend] at hx;cases hx
  ·rw[hend] at hx;cases hx
 have hled: ∀ {V':Nat},Top V' (tickTo g.n g)→Led V' g.n (tickTo g.n g).r (tickTo g.n g).way→D V' (round g):=fun {V'} T1 L1=>by
  obtain⟨h2,G2,_,q1,q2⟩:=drain_ind hN (fun _ g1=>Top V' g1∧Led V' g1.n g1.r g1.way) (fun h h' g x l G p hw _ _=>⟨take_top G p.1 hw,p.2.take G p.1 hw⟩) 30000 h1 _ G1 ⟨T1,by rw[p0];exact L1⟩
  exact hdone G2 q1 q2
 rcases I.m with C|L|⟨T1,M1,M2⟩
 ·left
  obtain⟨h2,G2,_,q1,q2⟩:=drain_ind hN (fun h1 g1=>Top (V+1) g1∧(Cand (V+1) g1.n h1 g1.r g1.way∨Led (V+1) g1.n g1.r g1.way)) (fun h h' g x l G p hw G' E=>⟨take_top G p.1 hw,by
   rcases p.2 with c|c
   ·exact c.take G p.1 hw G' E
   ·exact .inr (c.take G p.1 hw)⟩) 30000 h1 _ G1 ⟨I.top,.inl C⟩
  rcases q2 with c|c
  ·exact(c.end G2 hend).elim
  ·exact hdone G2 q1 c
 ·left
  exact hled I.top (by have h9:=L;rw[tickTo_n] at h9;exact h9)
 ·by_cases hl:LeadX V g.n g.r
  ·right;left
   rw[p0] at M1
   obtain⟨m1,m2⟩:=M1 hl
   refine⟨hl,hled T1 ⟨m1.1,m1.2,fun k hk hne=> ?_⟩⟩
   obtain⟨x,x1,x2,x3,x4⟩:=m2 (Nat.mod_lt _ G.n1) k hk hne
   exact .inr (.inl ⟨x,x1,x2,x3,.inl x4⟩)
  ·right;right
   rw[p0] at M2
   obtain⟨W,W2⟩:=M2 hl
   have hjn:=(hj hl).1
   rw[if_pos hjn] at W
   have W':Wt V (tickTo g.n g).n j (t+1) (tickTo g.n g).r (tickTo g.n g).way:=by rw[tickTo_n];exact W
   obtain⟨h2,G2,_,q1,q2⟩:=drain_ind hN (fun _ g1=>g1.n=g.n∧Top V g1∧Wt V g1.n j (t+1) g1.r g1.way) (fun h h' g x l G p hw G' _=>⟨p.1,take_top G p.2.1 hw,p.2.2.take G p.2.1 hw G'⟩) 30000 h1 _ G1 ⟨p0,T1,W'⟩
   refine⟨hl,q2.1,?_,W2 hjn⟩
   rcases q2.2 with c|c
   ·rw[q1] at c;exact .inl c
   ·exact .inr ⟨c.1,c.2.1⟩
end Go.Proofs.YtdmjegelcdghlaaGreat.Vw
