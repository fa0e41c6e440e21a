/-
  Chapter 22, plain: the group's invariant: a view begins.
-/
import Derived.Test.YtdmjegelcdghlaaGreatGDb
set_option maxRecDepth 100000
set_option maxHeartbeats 64000000
set_option linter.unusedVariables false
set_option linter.unusedSimpArgs false
namespace Go.Proofs.YtdmjegelcdghlaaGreat
theorem Z77 {p:Prop}(h:p:=by show¬(0:Nat)=1;omega):p:=h
end Go.Proofs.YtdmjegelcdghlaaGreat
namespace Go.Proofs.YtdmjegelcdghlaaGreat.Vw
variable {O:Type}
theorem bestO_spec: ∀(l:List (Of O)) (o:Of O),bestO l=some o→o∈l∧ ∀x∈l,x.nr<o.nr∨x.nr=o.nr∧x.last≤o.last:=by
 intro l
 induction l with
 |nil=>intro o h;cases h
 |cons a l ih=>
  intro o h
  unfold bestO at h
  cases hb:bestO l with
  |none=>
   rw[hb] at h
   cases h
   have hl:l= []:=by
    cases l with
    |nil=>rfl
    |cons y l=>
     exfalso
     unfold bestO at hb
     split at hb
     ·cases hb
     ·split at hb<;>cases hb
   subst hl
   exact⟨List.mem_cons_self,fun x hx=>by
    rw[List.mem_singleton] at hx
    subst hx;exact .inr ⟨rfl,Nat.le_refl _⟩⟩
  |some b=>
   rw[hb] at h
   obtain⟨h1,h2⟩:=ih b hb
   by_cases hbt:betterO b a=true
   ·simp only[hbt,if_true] at h
    cases h
    refine⟨List.mem_cons_of_mem _ h1,fun x hx=> ?_⟩
    rcases List.mem_cons.1 hx with rfl|hx
    ·unfold betterO at hbt
     simp only[Bool.or_eq_true,Bool.and_eq_true,decide_eq_true_eq] at hbt
     omega
    ·exact h2 x hx
   ·simp only[hbt] at h
    cases h
    refine⟨List.mem_cons_self,fun x hx=> ?_⟩
    unfold betterO at hbt
    simp only[Bool.or_eq_true,Bool.and_eq_true,decide_eq_true_eq] at hbt
    rcases List.mem_cons.1 hx with rfl|hx
    ·exact .inr ⟨rfl,Nat.le_refl _⟩
    ·have:=h2 x hx
     omega
theorem bestO_some (l:List (Of O))(h:0<l.length): ∃o,bestO l=some o:=by
 cases l with
 |nil=>exact absurd h Z97
 |cons a l=>
  unfold bestO
  split
  ·exact⟨_,rfl⟩
  ·split<;>exact⟨_,rfl⟩
variable {n N:Nat} {ok:O→Bool} {h:Gh O} {R:Nat→Rp O} {kp:Nat→Kt O} {sv:Nat→List (Sv O)} {i:Nat}
theorem Core.stab_own {vw nr ls:Nat→Nat}(H:Core n h vw nr ls){v b v1:Nat}(hi:i<n)(s:Stab n h v b)(h1:v≤v1)(b1:h.B v1):(h.W (nr i)).take b=(h.W v1).take b:=by
 obtain⟨u,g1,g2⟩:=s
 exact(H.sb hi g2).2.trans (H.safe' (Nat.le_trans g1 h1) b1 (g2.cm H.n1)).2.symm
theorem foldl_max_le {α:Type}(f:α→Nat)(b:Nat): ∀(l:List α) (c:Nat),c≤b→(∀x∈l,f x≤b)→l.foldl (fun c x=>max c (f x)) c≤b:=by
 intro l
 induction l with
 |nil=>intro c hc _;exact hc
 |cons a l ih=>intro c hc hl;exact ih _ (Nat.max_le.2 ⟨hc,hl a List.mem_cons_self⟩) fun x hx=>hl x (List.mem_cons_of_mem _ hx)
theorem foldl_max_ge {α:Type}(f:α→Nat): ∀(l:List α) (c:Nat),c≤l.foldl (fun c x=>max c (f x)) c:=by
 intro l
 induction l with
 |nil=>intro c;exact Nat.le_refl _
 |cons a l ih=>intro c;exact Nat.le_trans (Nat.le_max_left _ _) (ih _)
theorem foldl_max_p {α:Type}(f:α→Nat)(P:Nat→Prop)(hP: ∀a b,P a→P b→P (max a b)): ∀(l:List α) (c:Nat),P c→(∀x∈l,P (f x))→P (l.foldl (fun c x=>max c (f x)) c):=by
 intro l
 induction l with
 |nil=>intro c hc _;exact hc
 |cons a l ih=>intro c hc hl;exact ih _ (hP _ _ hc (hl a List.mem_cons_self)) fun x hx=>hl x (List.mem_cons_of_mem _ hx)
theorem wok_put {i v len Iv:Nat}{Wv:List O}{N':Nat}(hw:Wok ok N h)(hN:N≤N')(h1:Wv.all ok=true)(h2:Wv.length≤N'):Wok ok N' (h.put v i len Wv Iv):=fun u=>by
 show(upd h.W v Wv u).all ok=true∧(upd h.W v Wv u).length≤N'
 by_cases e:u=v
 ·subst e;rw[upd_same];exact⟨h1,h2⟩
 ·rw[upd_ne _ _ e];exact⟨(hw u).1,Nat.le_trans (hw u).2 hN⟩
theorem all_take {l:List O}(h:l.all ok=true)(k:Nat):(l.take k).all ok=true:=by
 rw[List.all_eq_true] at h⊢
 exact fun x hx=>h x (List.mem_of_mem_take hx)
theorem Al.p_begun1 (H:Al n ok N h R kp sv)(hN:N≤TM)(hi:i<n)(hm:mayBegin (R i)=true){o:Of O}(ho:bestO (offL (R i))=some o):
 St n ok N h R kp sv i (save (begun1 (R i) o) (max o.ao (R i).bs))∧leads (save (begun1 (R i) o) (max o.ao (R i).bs))=true:=by
 have g:=H.rep i hi
 unfold mayBegin at hm
 simp only[Bool.and_eq_true,decide_eq_true_eq] at hm
 obtain⟨⟨hm1,hm2⟩,hm3⟩:=hm
 obtain⟨ho1,ho2⟩:=bestO_spec _ _ ho
 have hmem: ∀x∈offL (R i),∃k,k<n∧(R i).offs k=some x:=fun x hx=>by
  obtain⟨k,hk,h1⟩:=List.mem_filterMap.1 hx
  rw[List.mem_range,g.nn] at hk
  exact⟨k,hk,h1⟩
 obtain⟨kb,hkb,hkb1⟩:=hmem o ho1
 obtain⟨b1,b2,b3,b4,b5,b6⟩:=g.of kb o hkb1
 obtain⟨v,hv⟩: ∃v,v=(R i).vw:=⟨_,rfl⟩
 rw[←hv] at b1 b2 b4
 have hnb: ¬h.B v:=fun hb=>by
  have h1:=H.core.pv v hb
  rw[b2] at h1
  have h2:v≤(R i).nr:=h1
  omega
 obtain⟨c,hc⟩: ∃c,c=max o.ao (R i).bs:=⟨_,rfl⟩
 have hlast:o.last=o.ao+o.ops.length:=rfl
 have hc1:(R i).bs≤c:=by rw[hc];exact Nat.le_max_right _ _
 have hc2:o.ao≤c:=by rw[hc];exact Nat.le_max_left _ _
 have hc3:c≤(R i).ls:=by rw[hc];exact Nat.max_le.2 ⟨b5,Nat.le_trans g.od.1 (Nat.le_trans g.od.2.1 g.od.2.2.1)⟩
 have hc4:c≤o.last:=by rw[hc];exact Nat.max_le.2 ⟨Nat.le_trans b4.le.1 b4.le.2,Nat.le_trans g.od.1 (Nat.le_trans g.od.2.1 b6)⟩
 have hag:(h.W (R i).nr).take c=(h.W o.nr).take c:=by
  rcases Nat.le_total o.ao (R i).bs with h1|h1
  ·rw[hc,Nat.max_eq_right h1]
   obtain⟨u,g1,g2⟩:=g.bs
   rcases Nat.eq_zero_or_pos (R i).bs with h0|h0
   ·rw[h0];rfl
   ·have h3:=(b4.fz u Z18 (Nat.lt_of_lt_of_le h0 (g2.2 kb hkb))).1
    exact H.core.stab_own hi ⟨u,h3,g2⟩ (Nat.le_refl _) b4.b
  ·rw[hc,Nat.max_eq_left h1]
   exact H.core.stab_own hi b4.ao (Nat.le_refl _) b4.b
 obtain⟨L,hL⟩: ∃L,L=layL (R i) o.ao o.ops:=⟨_,rfl⟩
 have hL1:L=(R i).log.take (c-(R i).bs)++o.ops.drop (c-o.ao):=by rw[hL];unfold layL;rw[←hc]
 have hlay:=lay_sg g.sg b4.sg hc1 hc2 (by rw[←g.ls];exact hc3) hc4 hag
 rw[←hL1,←hlast] at hlay
 obtain⟨Wv,hWv⟩: ∃Wv,Wv=(h.W o.nr).take o.last:=⟨_,rfl⟩
 have hWl:Wv.length=o.last:=by
  have:=b4.sg.le
  rw[hWv,List.length_take,Nat.min_eq_left]
  rw[hlast];exact this
 have hWa:(h.W o.nr).take o.last=Wv.take o.last:=by rw[hWv,List.take_take,Nat.min_self]
 have hsg:Sg Wv (R i).bs L:=hlay.1.agree hWa (Nat.le_of_eq hlay.2)
 have hnil:=(H.core.nb v hnb).1
 have E:Ext n h (h.put v i o.last Wv o.last) (fun k=>(R k).vw):=put_ext H.core hi (by show(R i).vw≤v;omega) (by rw[hnil];exact List.nil_prefix) (fun hb=>absurd hb hnb) (fun e=>by have e':(R i).nr=v:=e;omega)
 have hbeg:Beg n (h.put v i o.last Wv o.last) (upd (fun k=>(R k).vw) i v) v:=by
  refine⟨fun k=>((R i).offs k).map fun x=>(x.nr,x.last),kb,o.nr,o.last,?_,fun k u l hq=> ?_,by show Option.map _ ((R i).offs kb)=_;rw[hkb1];rfl,upd_same _ _ _,?_⟩
  ·unfold Maj
   have h1:(offL (R i)).length=(List.range n).countP fun k=>(((R i).offs k).map fun x=>(x.nr,x.last)).isSome:=by
    unfold offL
    rw[List.length_filterMap_eq_countP,g.nn]
    refine List.countP_congr fun k _=> ?_
    cases(R i).offs k<;>simp
   rw[←h1,←g.nn]
   exact hm3
  ·obtain⟨x,hx,hx2⟩:=Option.map_eq_some_iff.1 hq
   cases hx2
   obtain⟨d1,d2,d3,d4,d5,d6⟩:=g.of k x hx
   rw[←hv] at d1 d2 d4
   have hne:x.nr≠v:=by have:=d4.nr;omega
   have hxm:x∈offL (R i):=List.mem_filterMap.2 ⟨k,List.mem_range.2 (by rw[g.nn];exact d3),hx⟩
   have hWx:(h.put v i o.last Wv o.last).W x.nr=h.W x.nr:=upd_ne _ _ hne
   have hIx:(h.put v i o.last Wv o.last).I x.nr=h.I x.nr:=upd_ne _ _ hne
   have hAx: ∀w,w<v→(h.put v i o.last Wv o.last).A w k=h.A w k:=fun w hw=>if_neg fun e=>by have:=e.1;omega
   refine⟨d3,?_,d4.nr,.inl d4.b,by rw[hIx];exact d4.i,by rw[hWx];exact d4.sg.le,fun w hw h0=> ?_,?_⟩
   ·by_cases e:k=i
    ·subst e;rw[upd_same];exact Nat.le_refl _
    ·rw[upd_ne _ _ e];exact d4.vk
   ·rw[hAx w hw] at h0⊢
    exact d4.fz w hw h0
   ·rcases ho2 x hxm with h1|h1
    ·exact .inl h1
    ·exact .inr h1
  ·have hne:o.nr≠v:=by have:=b4.nr;omega
   show(upd h.W v Wv v).take o.last=(upd h.W v Wv o.nr).take o.last
   rw[upd_same,upd_ne _ _ hne]
   exact hWa.symm
 have hcore:Core n (h.put v i o.last Wv o.last) (upd (fun k=>(R k).vw) i v) (upd (fun k=>(R k).nr) i v) (upd (fun k=>(R k).ls) i o.last):=
  put_core H.core hi (by show(R i).vw≤v;omega) (by rw[hnil];exact List.nil_prefix) (fun hb=>absurd hb hnb) (fun e=>by have e':(R i).nr=v:=e;omega) ⟨Nat.le_refl _,by rw[hWl];exact Nat.le_refl _⟩ (fun _=>hWl.symm) (fun e=>absurd b2 e) fun _=>hbeg
 have hWv':(h.put v i o.last Wv o.last).W v=Wv:=upd_same _ _ _
 have hlsN:(R i).bs+L.length=o.last:=hlay.2
 have hlt:(R i).nr<v:=b1
 have hd:c+(L.drop (c-(R i).bs)).length=(R i).bs+L.length:=by rw[List.length_drop];omega
 have hWok:Wok ok N (h.put v i o.last Wv o.last):=wok_put H.wok (Nat.le_refl _) (by rw[hWv];exact all_take (H.wok _).1 _) (by rw[hWv,List.length_take];exact Nat.le_trans (Nat.min_le_right _ _) (H.wok _).2)
 have hbeg1:save (begun1 (R i) o) (max o.ao (R i).bs)= {R i with st:=0,nr:=v,log:=L,ls:=(R i).bs+L.length,cm:=(offL (R i)).foldl (fun c x=>max c (min x.cm ((R i).bs+L.length))) (R i).cm,offs:=fun _=>none,hv:=List.replicate n 0,saves:=(R i).saves++ [⟨true,v,c,L.drop (c-(R i).bs),(R i).sb⟩] }:=by
  unfold save begun1 lay
  simp only[←hL,←hc,←hv,g.nn]
 rw[hbeg1]
 have hcmle:(offL (R i)).foldl (fun c x=>max c (min x.cm ((R i).bs+L.length))) (R i).cm≤(R i).bs+L.length:=foldl_max_le _ _ _ _ (by rw[hlsN];exact b6) fun x _=>Nat.min_le_right _ _
 have hcmge:=foldl_max_ge (fun x:Of O=>min x.cm ((R i).bs+L.length)) (offL (R i)) (R i).cm
 refine⟨H.put hi E ?_ ?_ ?_ ?_ hWok,?_⟩
 ·exact Nat.le_refl _
 ·show Core n _ (upd _ i (R i).vw) (upd _ i v) (upd _ i ((R i).bs+L.length))
  rw[←hv,hlsN];exact hcore
 ·have hmono: ∀k,k<n→(fun k=>(R k).vw) k≤upd (fun k=>(R k).vw) i (R i).vw k:=upd_mono (n:=n) (r:=R i) (Nat.le_refl _)
  refine⟨g.id,g.nn,⟨by show 0≤2;omega,⟨fun e=>absurd e Z77,fun e=> ?_⟩⟩,g.tm,?_,rfl,⟨g.od.1,Nat.le_trans g.od.2.1 hcmge,hcmle,Nat.le_trans g.od.2.2.2 hcmge⟩,?_,?_,?_,fun k x hx=>(by cases hx),?_,fun _ _ k hk=> ?_,fun x hx=>(g.out x hx).ext E hmono⟩
  ·have e':v<(R i).vw:=e
   omega
  ·show Sg ((h.put v i o.last Wv o.last).W v) (R i).bs L
   rw[hWv'];exact hsg
  ·refine foldl_max_p _ (Sure n _ v) (fun a b ha hb=>ha.max hb) _ _ ((E.sure g.cm).up Z18) fun x hx=> ?_
   obtain⟨k,hk,hk1⟩:=hmem x hx
   obtain⟨d1,d2,d3,d4,d5,d6⟩:=g.of k x hk1
   exact((E.sure d4.cm).up (by have:=d4.nr;omega)).le (Nat.min_le_left _ _)
  ·exact(E.stab g.sb).up (by show(R i).nr≤v;omega)
  ·exact(E.stab g.bs).up (by show(R i).nr≤v;omega)
  ·show(List.replicate n 0).length=n
   rw[List.length_replicate]
  ·show(List.replicate n 0).getD k 0≤_
   rw[List.getD_eq_getElem?_getD,List.getElem?_replicate,if_pos hk]
   exact Nat.zero_le _
 ·have hsv:=(H.ld i hi).save (v':=v) (at_:=c) (sb:=(R i).sb) (ops:=L.drop (c-(R i).bs)) E (H.core.bn i hi) Z18 Z18 (by rw[hv];exact g.tm) ?_ hc1 hc3 ?_ ((E.stab g.sb).up Z18) ?_ ?_ ?_
  ·rw[hd,List.append_assoc] at hsv
   show LDR n ok _ i (R i).vw v ((R i).bs+L.length) (R i).bs (kp i) (sv i++((R i).saves++_))
   rw[←hv]
   exact hsv
  ·have h1:=hsg.drop (c-(R i).bs) Z18
   exact h1.all (by rw[hWv];exact all_take (H.wok _).1 _)
  ·have h1:=g.od.2.2.2
   have h2:=g.od.2.2.1
   have h3:=(H.core.li i hi).2
   have h4:=(H.wok (R i).nr).2
   have h5:(R i).ls≤(h.W (R i).nr).length:=h3
   omega
  ·rw[hWv']
   have h1:=hsg.drop (c-(R i).bs) Z18
   rw[show(R i).bs+(c-(R i).bs)=c by omega] at h1
   exact h1
  ·have hne:(R i).nr≠v:=by omega
   rw[hWv',show(h.put v i o.last Wv o.last).W (R i).nr=h.W (R i).nr from upd_ne _ _ hne,hag,hWv,List.take_take,Nat.min_eq_left hc4]
  ·intro d hd1 hd2
   obtain⟨u,hu1,hu2⟩:=hd1
   have h1:=(hcore.safe v u d Z18 (.inr rfl) hu2).1
   rw[show(h.put v i o.last Wv o.last).I v=o.last from upd_same _ _ _] at h1
   rw[hd,hlsN];exact h1
 ·unfold leads prm
  simp only[Bool.and_eq_true,decide_eq_true_eq]
  rw[g.nn,g.id,←hv]
  exact⟨trivial,b2⟩
theorem Al.p_begin (H:Al n ok N h R kp sv)(hN:N≤TM)(hi:i<n):St n ok N h R kp sv i (begin_ (R i)):=by
 unfold begin_
 by_cases hm:mayBegin (R i)=true
 ·rw[if_pos hm]
  have hlen:0<(offL (R i)).length:=by
   unfold mayBegin at hm
   simp only[Bool.and_eq_true,decide_eq_true_eq] at hm
   omega
  obtain⟨o,ho⟩:=bestO_some _ hlen
  rw[ho]
  obtain⟨h1,h2⟩:=H.p_begun1 hN hi hm ho
  show St n ok N h R kp sv i (count (start (save (begun1 (R i) o) (max o.ao (R i).bs)) (List.range (save (begun1 (R i) o) (max o.ao (R i).bs)).n)))
  generalize save (begun1 (R i) o) (max o.ao (R i).bs)=r2 at*
  refine h1.trans hi fun h' e v a=> ?_
  have hnn:r2.n=n:=by have:=(a.rep i hi).nn;rw[upd_same] at this;exact this
  have h3:St n ok N h' (upd R i r2) kp sv i (start r2 (List.range r2.n)):=by
   have h4:=a.p_send hi (fun _ _=>mBegin r2) (List.range r2.n) fun k hk=>⟨by rw[List.mem_range,hnn] at hk;exact hk,fun hne=>by
    have h5:=a.m_begin hi (by rw[upd_same];exact h2) (by rw[List.mem_range,hnn] at hk;exact hk) hne
    rw[upd_same] at h5⊢
    exact h5⟩
   rw[upd_same] at h4
   rw[start_eq]
   exact h4
  refine h3.trans hi fun h'' e' v' a'=> ?_
  rw[upd_upd] at a'
  have h5:=a'.p_count hi (by rw[upd_same,start_eq];exact h2)
  rw[upd_same] at h5
  rw[upd_upd]
  exact h5
 ·rw[if_neg hm]
  exact St.refl H i
end Go.Proofs.YtdmjegelcdghlaaGreat.Vw
namespace Go.Proofs.YtdmjegelcdghlaaGreat
theorem Z60 {p:Prop}(h:p:=by
 by_cases ek:k=i
 ·subst ek;rw[upd_same];exact v
 ·rw[upd_ne _ _ ek];exact Nat.le_refl _):p:=h
end Go.Proofs.YtdmjegelcdghlaaGreat
namespace Go.Proofs.YtdmjegelcdghlaaGreat.Vw
variable {O:Type} {n N:Nat} {ok:O→Bool} {h:Gh O} {R:Nat→Rp O} {kp:Nat→Kt O} {sv:Nat→List (Sv O)} {i:Nat}
theorem St.then {N':Nat}(hi:i<n){r r':Rp O}(s:St n ok N h R kp sv i r)(t: ∀(h':Gh O) (R':Nat→Rp O),R' i=r→Ext n h h' (fun k=>(R k).vw)→(R i).vw≤r.vw→Al n ok N h' R' kp sv→(∀x,MI n ok h (fun k=>(R k).vw) x→MI n ok h' (fun k=>(R' k).vw) x)→St n ok N' h' R' kp sv i r'):St n ok N' h R kp sv i r':=by
 refine s.trans hi fun h' e v a=>t h' _ (upd_same _ _ _) e v a fun x hx=>hx.ext e fun k hk=> ?_
 exact Z60
theorem Core.sure_new {vw nr ls:Nat→Nat}{h':Gh O}(C:Core n h' vw nr ls){u v d:Nat}(hu:u<v)(hb:h'.B v)(s:Sure n h' u d):d≤h'.I v:=by
 obtain⟨w,h1,h2⟩:=s
 exact(C.safe v w d Z18 hb h2).1
theorem Al.p_ask1 (H:Al n ok N h R kp sv)(hN:N+1≤TM)(hi:i<n)(hl:leads (R i)=true){o:O}(ho:ok o=true):St n ok (N+1) h R kp sv i (save (ask1 (R i) o) (R i).ls):=by
 have g:=H.rep i hi
 obtain⟨l0,l1,l2,l3⟩:=H.leads_nr hi hl
 obtain⟨v,hv⟩: ∃v,v=(R i).vw:=⟨_,rfl⟩
 rw[←hv] at l1 l2 l3
 have hB:h.B v:=by rw[←l2];exact H.core.bn i hi
 obtain⟨Wv,hWv⟩: ∃Wv,Wv=h.W v++ [o]:=⟨_,rfl⟩
 have hpre:h.W v<+:Wv:=by rw[hWv];exact List.prefix_append _ _
 have hWl:Wv.length=(R i).ls+1:=by rw[hWv,List.length_append,l3];rfl
 have hI:h.I v≤(R i).ls:=by rw[←l2];exact(H.core.li i hi).1
 have E:Ext n h (h.put v i ((R i).ls+1) Wv (h.I v)) (fun k=>(R k).vw):=put_ext H.core hi (by show(R i).vw≤v;omega) hpre (fun _=>rfl) (fun _=>Nat.le_succ _)
 have hcore:Core n (h.put v i ((R i).ls+1) Wv (h.I v)) (upd (fun k=>(R k).vw) i v) (upd (fun k=>(R k).nr) i v) (upd (fun k=>(R k).ls) i ((R i).ls+1)):=
  put_core H.core hi (by show(R i).vw≤v;omega) hpre (fun _=>rfl) (fun _=>Nat.le_succ _) ⟨Z18,by rw[hWl];exact Nat.le_refl _⟩ (fun _=>hWl.symm) (fun e=>absurd l1 e) fun hb=>absurd hB hb
 have hWv':(h.put v i ((R i).ls+1) Wv (h.I v)).W v=Wv:=upd_same _ _ _
 have hWok:Wok ok (N+1) (h.put v i ((R i).ls+1) Wv (h.I v)):=wok_put H.wok (Nat.le_succ _) (by rw[hWv,List.all_append,(H.wok v).1];simp[ho]) (by rw[hWl,l3];exact Nat.succ_le_succ (H.wok v).2)
 have hsg:Sg Wv (R i).bs ((R i).log++ [o]):=by
  have h1:Sg (h.W v) (R i).bs (R i).log:=by rw[←l2];exact g.sg
  refine(h1.ext hpre).app ?_
  rw[←g.ls]
  refine⟨by rw[hWl];omega,?_⟩
  rw[hWv,l3,List.drop_left]
  exact List.prefix_refl _
 have hdr:((R i).log++ [o]).drop ((R i).ls-(R i).bs)= [o]:=by
  rw[g.ls,Nat.add_sub_cancel_left,List.drop_left]
 have hlen:(R i).bs+((R i).log++ [o]).length=(R i).ls+1:=by rw[List.length_append,g.ls];rfl
 have heq:save (ask1 (R i) o) (R i).ls= {R i with log:=(R i).log++ [o],ls:=(R i).ls+1,saves:=(R i).saves++ [⟨true,(R i).vw,(R i).ls,[o],(R i).sb⟩] }:=by
  unfold save ask1
  simp only[hdr]
 rw[heq]
 have hmono: ∀k,k<n→(fun k=>(R k).vw) k≤upd (fun k=>(R k).vw) i (R i).vw k:=upd_mono (n:=n) (r:=R i) (Nat.le_refl _)
 refine H.put hi E (Nat.le_refl _) ?_ ?_ ?_ hWok
 ·show Core n _ (upd _ i (R i).vw) (upd _ i (R i).nr) (upd _ i ((R i).ls+1))
  rw[l2,←hv];exact hcore
 ·refine⟨g.id,g.nn,g.st,g.tm,?_,hlen.symm,⟨g.od.1,g.od.2.1,Nat.le_succ_of_le g.od.2.2.1,g.od.2.2.2⟩,E.sure g.cm,E.stab g.sb,E.stab g.bs,fun k x hx=> ?_,g.hl,fun h0 h1 k hk=>Nat.le_trans (g.hv h0 h1 k hk) (E.a _ _),fun x hx=>(g.out x hx).ext E hmono⟩
  ·show Sg ((h.put v i ((R i).ls+1) Wv (h.I v)).W (R i).nr) (R i).bs _
   rw[l2,hWv'];exact hsg
  ·obtain⟨d1,d2,d3,d4,d5,d6⟩:=g.of k x hx
   exact absurd d1 Z18
 ·have hsv:=(H.ld i hi).save (v':=v) (at_:=(R i).ls) (sb:=(R i).sb) (ops:= [o]) E (H.core.bn i hi) Z18 Z18 (by rw[hv];exact g.tm) (by simp[ho]) (by rw[g.ls];exact Nat.le_add_right _ _) (Nat.le_refl _) ?_ ((E.stab g.sb).up Z18) ?_ ?_ ?_
  ·rw[List.append_assoc] at hsv
   show LDR n ok _ i (R i).vw (R i).nr ((R i).ls+1) (R i).bs (kp i) (sv i++((R i).saves++_))
   rw[l2,←hv]
   exact hsv
  ·have h1:=g.od.2.2.2
   have h2:=g.od.2.2.1
   have h4:=(H.wok v).2
   omega
  ·rw[hWv']
   have h1:=hsg.drop ((R i).ls-(R i).bs) (by rw[List.length_append,g.ls];simp)
   rw[hdr,show(R i).bs+((R i).ls-(R i).bs)=(R i).ls by have:=g.ls;omega] at h1
   exact h1
  ·rw[l2]
  ·intro d hd1 hd2
   exact Nat.le_add_right_of_le hd2
theorem Al.p_tell (H:Al n ok N h R kp sv)(hi:i<n)(hl:leads (R i)=true):St n ok N h R kp sv i (tell (R i)):=by
 rw[tell_eq]
 refine H.p_send hi mPrep _ fun k hk=> ?_
 rw[List.mem_range,(H.rep i hi).nn] at hk
 exact⟨hk,fun hne=>H.m_prep hi hl hk hne⟩
theorem Al.p_start (H:Al n ok N h R kp sv)(hi:i<n)(hl:leads (R i)=true)(ks:List Nat)(hks: ∀k∈ks,k<n):St n ok N h R kp sv i (start (R i) ks):=by
 rw[start_eq]
 exact H.p_send hi (fun _ _=>mBegin (R i)) ks fun k hk=>⟨hks k hk,fun hne=>H.m_begin hi hl (hks k hk) hne⟩
theorem Al.p_ask (H:Al n ok N h R kp sv)(hN:N+1≤TM)(hi:i<n)(hl:leads (R i)=true){o:O}(ho:ok o=true):St n ok (N+1) h R kp sv i (ask (R i) o):=by
 unfold ask
 refine(H.p_ask1 hN hi hl ho).trans hi fun h' e v a=> ?_
 obtain⟨r2,hr2⟩: ∃r2,r2=save (ask1 (R i) o) (R i).ls:=⟨_,rfl⟩
 have hl2:leads r2=true:=by rw[hr2];exact hl
 rw[←hr2] at a⊢
 have h5:=a.p_count hi (by rw[upd_same];exact hl2)
 rw[upd_same] at h5
 refine h5.trans hi fun h'' e' v' a'=> ?_
 have h6:=a'.p_tell hi (by rw[upd_same];exact hl2)
 rw[upd_same] at h6
 exact h6
theorem Al.p_have (H:Al n ok N h R kp sv)(hi:i<n)(hl:leads (R i)=true){m:Ms O}(hf:m.fr<n)(hm:m.ls≤h.A (R i).vw m.fr):St n ok N h R kp sv i (haveM (R i) m):=by
 have g:=H.rep i hi
 unfold haveM
 have h1:St n ok N h R kp sv i {R i with hv:=(R i).hv.set m.fr (max ((R i).hv.getD m.fr 0) (min m.ls (R i).ls))}:=by
  refine H.same hi rfl rfl rfl (Nat.le_refl _) rfl ⟨g.id,g.nn,g.st,g.tm,g.sg,g.ls,g.od,g.cm,g.sb,g.bs,g.of,by show((R i).hv.set _ _).length=n;rw[List.length_set];exact g.hl,fun h0 h1 k hk=> ?_,g.out⟩
  show((R i).hv.set m.fr _).getD k 0≤h.A (R i).vw k
  rw[List.getD_eq_getElem?_getD,List.getElem?_set]
  by_cases e:m.fr=k
  ·subst e
   rw[if_pos rfl,if_pos (by rw[g.hl];exact hk)]
   exact Nat.max_le.2 ⟨g.hv h0 h1 _ hk,Nat.le_trans (Nat.min_le_left _ _) hm⟩
  ·rw[if_neg e,←List.getD_eq_getElem?_getD]
   exact g.hv h0 h1 k hk
 refine h1.trans hi fun h' e v a=> ?_
 have h5:=a.p_count hi (by rw[upd_same];exact hl)
 rw[upd_same] at h5
 exact h5
theorem Al.p_report (H:Al n ok N h R kp sv)(hi:i<n)(hv:(R i).nr=(R i).vw){k:Nat}(hk:k<n):St n ok N h R kp sv i (report (R i) k):=by
 unfold report
 rw[snd1_eq]
 refine H.p_send hi (fun _ _=>mHave (R i)) [k] fun j hj=> ?_
 rw[List.mem_singleton] at hj
 subst hj
 exact⟨hk,fun hne=>H.m_have hi hv hk hne⟩
theorem Al.p_kd (H:Al n ok N h R kp sv)(hi:i<n){kd:Nat}(hkd:kd=3∨kd=6)(ks:List Nat)(hks: ∀k∈ks,k<n):St n ok N h R kp sv i (sndL (mKd kd) (R i) ks):=by
 rw[sndL_eq]
 exact H.p_send hi (fun _ _=>mKd kd) ks fun k hk=>⟨hks k hk,fun hne=>H.m_kd hi kd hkd (hks k hk) hne⟩
theorem Al.p_kd1 (H:Al n ok N h R kp sv)(hi:i<n){kd:Nat}(hkd:kd=3∨kd=6){k:Nat}(hk:k<n):St n ok N h R kp sv i (snd1 (mKd kd) (R i) k):=
 H.p_kd hi hkd [k] fun j hj=>by rw[List.mem_singleton] at hj;omega
theorem Al.p_offer (H:Al n ok N h R kp sv)(hi:i<n)(hv:(R i).nr<(R i).vw):St n ok N h R kp sv i (offer (R i)):=by
 unfold offer
 rw[snd1_eq]
 refine H.p_send hi (fun _ _=>mOffer (R i)) [prm (R i)] fun j hj=> ?_
 rw[List.mem_singleton] at hj
 subst hj
 refine⟨by unfold prm;rw[(H.rep i hi).nn];exact Nat.mod_lt _ Z18,fun hne=>H.m_offer hi hv hne⟩
theorem Al.p_lay (H:Al n ok N h R kp sv)(hN:N≤TM)(hi:i<n){v a:Nat}{L:List O}(hv:(R i).vw≤v)(ht:v≤TM)(hB:h.B v)(hp:v % n≠i)(hI:h.I v≤(R i).bs+L.length)(hsg:Sg (h.W v) (R i).bs L)(ha1:(R i).bs≤a)(ha2:a≤(R i).ls)(ha3:a≤(R i).bs+L.length)
 (hag:(h.W (R i).nr).take a=(h.W v).take a) (hls:(R i).nr=v→(R i).ls≤(R i).bs+L.length) {st idle cm:Nat} {offs:Nat→Option (Of O)} (hst:st=0) (hof: ∀k,offs k=none) (hcm:(R i).cm≤cm∧cm≤(R i).bs+L.length) (hcs:Sure n h v cm):
 St n ok N h R kp sv i {R i with vw:=v,nr:=v,st:=st,idle:=idle,log:=L,ls:=(R i).bs+L.length,cm:=cm,offs:=offs,saves:=(R i).saves++ [⟨true,v,a,L.drop (a-(R i).bs),(R i).sb⟩] }:=by
 have g:=H.rep i hi
 have hnv:(R i).nr≤v:=Nat.le_trans (H.core.le i hi) hv
 obtain⟨len,hlen⟩: ∃len,len=(R i).bs+L.length:=⟨_,rfl⟩
 rw[←hlen] at hI ha3 hcm hls⊢
 have hlW:len≤(h.W v).length:=by rw[hlen];exact hsg.le
 have E:Ext n h (h.put v i len (h.W v) (h.I v)) (fun k=>(R k).vw):=put_ext H.core hi hv (List.prefix_refl _) (fun _=>rfl) hls
 have hcore:Core n (h.put v i len (h.W v) (h.I v)) (upd (fun k=>(R k).vw) i v) (upd (fun k=>(R k).nr) i v) (upd (fun k=>(R k).ls) i len):=
  put_core H.core hi hv (List.prefix_refl _) (fun _=>rfl) hls ⟨hI,hlW⟩ (fun e=>absurd e hp) (fun _=>⟨hB,rfl⟩) fun hb=>absurd hB hb
 have hWv:(h.put v i len (h.W v) (h.I v)).W v=h.W v:=upd_same _ _ _
 have hWu:(h.put v i len (h.W v) (h.I v)).W (R i).nr=h.W (R i).nr:=by
  by_cases e:(R i).nr=v
  ·rw[e];exact hWv
  ·exact upd_ne _ _ e
 have hWok:Wok ok N (h.put v i len (h.W v) (h.I v)):=wok_put H.wok (Nat.le_refl _) (H.wok v).1 (H.wok v).2
 have hd:a+(L.drop (a-(R i).bs)).length=len:=by rw[List.length_drop];omega
 have hsd:Sg (h.W v) a (L.drop (a-(R i).bs)):=by
  have h1:=hsg.drop (a-(R i).bs) Z18
  rw[show(R i).bs+(a-(R i).bs)=a by omega] at h1
  exact h1
 have hmono:=upd_mono (n:=n) (R:=R) (i:=i) (r:= {R i with vw:=v}) hv
 refine H.put hi E hv hcore ?_ ?_ hWok
 ·refine⟨g.id,g.nn,⟨by show st≤2;omega,⟨fun e=>absurd e (by show¬st=1;omega),fun e=>absurd e (Nat.lt_irrefl _)⟩⟩,ht,?_,hlen,⟨g.od.1,Nat.le_trans g.od.2.1 hcm.1,hcm.2,Nat.le_trans g.od.2.2.2 hcm.1⟩,E.sure hcs,(E.stab g.sb).up hnv,(E.stab g.bs).up hnv,fun k x hx=> ?_,g.hl,fun _ h1=>absurd h1 hp,fun x hx=>(g.out x hx).ext E hmono⟩
  ·show Sg ((h.put v i len (h.W v) (h.I v)).W v) (R i).bs L
   rw[hWv];exact hsg
  ·have hx':offs k=some x:=hx
   rw[hof k] at hx'
   cases hx'
 ·have hsv:=(H.ld i hi).save (v':=v) (at_:=a) (sb:=(R i).sb) (ops:=L.drop (a-(R i).bs)) E (H.core.bn i hi) hv hnv ht (hsd.all (H.wok v).1) ha1 ha2 ?_ ((E.stab g.sb).up hnv) (by rw[hWv];exact hsd) (by rw[hWv,hWu];exact hag) ?_
  ·rw[hd,List.append_assoc] at hsv
   exact hsv
  ·have h1:=g.od.2.2.2
   have h2:=g.od.2.2.1
   have h3:(R i).ls≤(h.W (R i).nr).length:=(H.core.li i hi).2
   have h4:=(H.wok (R i).nr).2
   omega
  ·intro d hd1 hd2
   rw[hd]
   by_cases e:(R i).nr=v
   ·exact Nat.le_trans hd2 (hls e)
   ·have h1:=hcore.sure_new (v:=v) Z18 (.inr rfl) hd1
    rw[show(h.put v i len (h.W v) (h.I v)).I v=h.I v from upd_same _ _ _] at h1
    exact Nat.le_trans h1 hI
end Go.Proofs.YtdmjegelcdghlaaGreat.Vw
namespace Go.Proofs.YtdmjegelcdghlaaGreat
theorem Z228 {p:Prop}(h:p:=by
 rw[if_neg hup]
 by_cases hl:leads (R i)=true
 ·exact Z72
 ·rw[if_neg hl];exact St.refl H i):p:=h
theorem Z101 {p:Prop}(h:p:=by
 unfold begin_
 split
 ·split
  ·rfl
  ·dsimp only
   rw[start_eq];rfl
 ·rfl):p:=h
theorem Z72 {p:Prop}(h:p:=by
 rw[if_pos hl]
 exact H.p_start hi hl [x.m.fr] fun k hk=>by rw[List.mem_singleton] at hk;subst hk;exact hx.fr):p:=h
end Go.Proofs.YtdmjegelcdghlaaGreat
namespace Go.Proofs.YtdmjegelcdghlaaGreat.Vw
variable {O:Type} {n N:Nat} {ok:O→Bool} {h:Gh O} {R:Nat→Rp O} {kp:Nat→Kt O} {sv:Nat→List (Sv O)} {i:Nat}
theorem Al.p_prep1 (H:Al n ok N h R kp sv)(hN:N≤TM)(hi:i<n){m:Ms O}(hnr:(R i).nr=(R i).vw)(hmv:m.vw=(R i).vw)(hfr:m.fr=m.vw % n)(hne:m.fr≠i)(hsg:Sg (h.W m.vw) m.ao m.ops):
 St n ok N h R kp sv i (prep1 (R i) m):=by
 have g:=H.rep i hi
 have hp:(R i).vw % n≠i:=by rw[←hmv,←hfr];exact hne
 unfold prep1
 by_cases hc:m.ao≤(R i).ls∧(R i).ls<m.ao+m.ops.length
 ·simp only[if_pos hc]
  have hlog:Sg (h.W m.vw) (R i).bs ((R i).log++m.ops.drop ((R i).ls-m.ao)):=by
   have h1:Sg (h.W m.vw) (R i).bs (R i).log:=by rw[hmv,←hnr];exact g.sg
   refine h1.app ?_
   have h2:=hsg.drop ((R i).ls-m.ao) Z18
   rw[show m.ao+((R i).ls-m.ao)=(R i).bs+(R i).log.length by have:=g.ls;omega] at h2
   exact h2
  have hlen:(R i).bs+((R i).log++m.ops.drop ((R i).ls-m.ao)).length=m.ao+m.ops.length:=by
   rw[List.length_append,List.length_drop]
   have:=g.ls
   omega
  have h1:=H.p_lay hN hi (v:=m.vw) (a:=(R i).ls) (L:=(R i).log++m.ops.drop ((R i).ls-m.ao)) (st:=0) (idle:=0) (cm:=(R i).cm) (offs:=(R i).offs) Z18 (by rw[hmv];exact g.tm) (by rw[hmv,←hnr];exact H.core.bn i hi) (by rw[hmv];exact hp)
   (by rw[hlen,hmv,←hnr];have h3:h.I (R i).nr≤(R i).ls:=(H.core.li i hi).1;omega) hlog (by have:=g.ls;omega) (Nat.le_refl _) Z18 (by rw[hmv,hnr]) (fun _=>Z18) rfl
   (fun k=>by
    cases ho:(R i).offs k with
    |none=>rfl
    |some o=>exact absurd (g.of k o ho).1 Z18) ⟨Nat.le_refl _,by have:=g.od.2.2.1;omega⟩ (by rw[hmv,←hnr];exact g.cm)
  have heq:save { {R i with st:=0,idle:=0} with log:=(R i).log++m.ops.drop ((R i).ls-m.ao),ls:=m.ao+m.ops.length} (R i).ls= {R i with vw:=m.vw,nr:=m.vw,st:=0,idle:=0,log:=(R i).log++m.ops.drop ((R i).ls-m.ao),ls:=(R i).bs+((R i).log++m.ops.drop ((R i).ls-m.ao)).length,cm:=(R i).cm,offs:=(R i).offs,saves:=(R i).saves++ [⟨true,m.vw,(R i).ls,((R i).log++m.ops.drop ((R i).ls-m.ao)).drop ((R i).ls-(R i).bs),(R i).sb⟩] }:=by
   unfold save
   rw[hlen]
   simp only[hmv,hnr]
  rw[heq]
  exact h1
 ·simp only[if_neg hc]
  refine H.same hi rfl rfl rfl (Nat.le_refl _) rfl ⟨g.id,g.nn,⟨by show 0≤2;omega,⟨fun e=>absurd e Z77,fun e=> ?_⟩⟩,g.tm,g.sg,g.ls,g.od,g.cm,g.sb,g.bs,g.of,g.hl,fun _ h1=>absurd h1 hp,g.out⟩
  have e':(R i).nr<(R i).vw:=e
  omega
theorem prep1_same (r:Rp O)(m:Ms O):(prep1 r m).vw=r.vw∧(prep1 r m).nr=r.nr∧(prep1 r m).st=0:=by
 unfold prep1
 dsimp only
 split<;>exact⟨rfl,rfl,rfl⟩
theorem Al.p_prep2 (H:Al n ok N h R kp sv)(hi:i<n){m:Ms O}(hnr:(R i).nr=(R i).vw)(hmv:m.vw=(R i).vw)(hcm:Sure n h m.vw m.cm)(hsb:Stab n h m.vw m.sb):St n ok N h R kp sv i (prep2 (R i) m):=by
 have g:=H.rep i hi
 have he:m.vw=(R i).nr:=by omega
 rw[he] at hcm hsb
 unfold prep2
 refine H.same hi rfl rfl rfl (Nat.le_refl _) rfl ⟨g.id,g.nn,g.st,g.tm,g.sg,g.ls,⟨g.od.1,Nat.le_trans g.od.2.1 (Nat.le_max_left _ _),Nat.max_le.2 ⟨g.od.2.2.1,Nat.min_le_right _ _⟩,Nat.max_le.2 ⟨Nat.le_trans g.od.2.2.2 (Nat.le_max_left _ _),Nat.min_le_right _ _⟩⟩,g.cm.max (hcm.le (Nat.min_le_left _ _)),g.sb.max (hsb.le (Nat.min_le_left _ _)),g.bs,fun k x hx=> ?_,g.hl,g.hv,g.out⟩
 exact absurd (g.of k x hx).1 Z18
theorem Al.p_prepare (H:Al n ok N h R kp sv)(hN:N≤TM)(hi:i<n){x:Sd O}(hx:MI n ok h (fun k=>(R k).vw) x)(hto:x.to=i)(hk:x.m.kd=1)(hmv:x.m.vw=(R i).vw):St n ok N h R kp sv i (prepare (R i) x.m):=by
 have g:=H.rep i hi
 obtain⟨c1,c2,c3,c4,c5,c6,c7,c8,c9⟩:x.m.ls=0∧x.m.nr=0∧x.m.fr=x.m.vw % n∧h.B x.m.vw∧Sg (h.W x.m.vw) x.m.ao x.m.ops∧Sure n h x.m.vw x.m.cm∧x.m.cm≤x.m.ao+x.m.ops.length∧Stab n h x.m.vw x.m.sb∧x.m.sb≤x.m.cm:=by
  rcases hx.kd with h1|⟨h1,_⟩|⟨h1,_⟩|⟨h1,_⟩|⟨h1,_⟩
  ·exact h1.2
  all_goals exact absurd h1 Z18
 unfold prepare
 by_cases hnr:(R i).nr=(R i).vw
 ·rw[if_pos hnr]
  obtain⟨s1,s2,s3⟩:=prep1_same (R i) x.m
  refine(H.p_prep1 hN hi hnr hmv c3 (by rw[←hto];exact hx.ne) c5).then hi fun h' R' hR e v a hm=> ?_
  have hnr':(R' i).nr=(R' i).vw:=by rw[hR,s1,s2];exact hnr
  have hmv':x.m.vw=(R' i).vw:=by rw[hR,s1];exact hmv
  have h2:=a.p_prep2 hi hnr' hmv' (e.sure c6) (e.stab c8)
  rw[hR] at h2
  refine h2.then hi fun h'' R'' hR' e' v' a' hm'=> ?_
  have h3:=a'.p_report hi (by rw[hR'];show(prep1 (R i) x.m).nr=(prep1 (R i) x.m).vw;rw[s1,s2];exact hnr) hx.fr
  rw[hR'] at h3
  exact h3
 ·rw[if_neg hnr]
  exact H.p_kd1 hi (.inr rfl) hx.fr
theorem Al.p_begunM (H:Al n ok N h R kp sv)(hN:N≤TM)(hi:i<n){x:Sd O}(hx:MI n ok h (fun k=>(R k).vw) x)(hto:x.to=i)(hk:x.m.kd=5)(hmv:(R i).vw≤x.m.vw)(htm:x.m.vw≤TM):St n ok N h R kp sv i (begunM (R i) x.m):=by
 have g:=H.rep i hi
 obtain⟨c1,c2,c3,c4,c5,c6,c7,c8,c9,c10,c11⟩:x.m.sb=0∧x.m.ls=0∧x.m.nr=0∧x.m.fr=x.m.vw % n∧h.B x.m.vw∧Sg (h.W x.m.vw) x.m.ao x.m.ops∧h.I x.m.vw≤x.m.ao+x.m.ops.length∧Sure n h x.m.vw x.m.cm∧x.m.ao≤x.m.cm∧x.m.cm≤x.m.ao+x.m.ops.length∧Stab n h x.m.vw x.m.ao:=by
  rcases hx.kd with⟨h1,_⟩|⟨h1,_⟩|⟨h1,_⟩|⟨h1,_⟩|h1
  all_goals first|exact h1.2|exact absurd h1 Z18
 have hp:x.m.vw % n≠i:=by rw[←c4,←hto];exact hx.ne
 have hle:(R i).nr≤(R i).vw:=H.core.le i hi
 unfold begunM
 by_cases hnr:(R i).nr=x.m.vw
 ·rw[if_pos hnr]
  have h1:St n ok N h R kp sv i {R i with st:=0,idle:=0}:=by
   refine H.same hi rfl rfl rfl (Nat.le_refl _) rfl ⟨g.id,g.nn,⟨by show 0≤2;omega,⟨fun e=>absurd e Z77,fun e=> ?_⟩⟩,g.tm,g.sg,g.ls,g.od,g.cm,g.sb,g.bs,g.of,g.hl,fun _ h1=>absurd h1 (by show¬(R i).vw % n=i;rw[show(R i).vw=x.m.vw by omega];exact hp),g.out⟩
   have e':(R i).nr<(R i).vw:=e
   omega
  refine h1.then hi fun h' R' hR e v a hm=> ?_
  have h3:=a.p_report hi (by rw[hR];show(R i).nr=(R i).vw;omega) hx.fr
  rw[hR] at h3
  exact h3
 ·rw[if_neg hnr]
  by_cases hc:(R i).ls<x.m.ao∨x.m.ao+x.m.ops.length<(R i).cm
  ·rw[if_pos hc];exact St.refl H i
  ·rw[if_neg hc]
   obtain⟨a,ha⟩: ∃a,a=max x.m.ao (R i).bs:=⟨_,rfl⟩
   have ha1:(R i).bs≤a:=by rw[ha];exact Nat.le_max_right _ _
   have ha2:x.m.ao≤a:=by rw[ha];exact Nat.le_max_left _ _
   have hbl:(R i).bs≤(R i).cm:=Nat.le_trans g.od.1 g.od.2.1
   have ha3:a≤(R i).ls:=by rw[ha];have:=g.od.2.2.1;exact Nat.max_le.2 ⟨Z18,Z18⟩
   have ha4:a≤x.m.ao+x.m.ops.length:=by rw[ha];exact Nat.max_le.2 ⟨Z18,Z18⟩
   have hag:(h.W (R i).nr).take a=(h.W x.m.vw).take a:=by
    rcases Nat.le_total x.m.ao (R i).bs with h1|h1
    ·rw[ha,Nat.max_eq_right h1]
     exact H.core.stab_own hi (g.bs.up (v':=x.m.vw) Z18) (Nat.le_refl _) c5
    ·rw[ha,Nat.max_eq_left h1]
     exact H.core.stab_own hi c11 (Nat.le_refl _) c5
   obtain⟨L,hL⟩: ∃L,L=layL (R i) x.m.ao x.m.ops:=⟨_,rfl⟩
   have hL1:L=(R i).log.take (a-(R i).bs)++x.m.ops.drop (a-x.m.ao):=by rw[hL];unfold layL;rw[←ha]
   have hlay:=lay_sg g.sg c6 ha1 ha2 (by rw[←g.ls];exact ha3) ha4 hag
   rw[←hL1] at hlay
   have h1:=H.p_lay hN hi (v:=x.m.vw) (a:=a) (L:=L) (st:=0) (idle:=0) (cm:=max (R i).cm x.m.cm) (offs:=fun _=>none) hmv htm c5 hp (by rw[hlay.2];exact c7) hlay.1 ha1 ha3 (by rw[hlay.2];exact ha4) hag (fun e=>absurd e hnr) rfl (fun _=>rfl)
    ⟨Nat.le_max_left _ _,by rw[hlay.2];exact Nat.max_le.2 ⟨Z18,c10⟩⟩ ((g.cm.up Z18).max c8)
   have heq:save (begunM1 (R i) x.m) (max x.m.ao (R i).bs)= {R i with vw:=x.m.vw,nr:=x.m.vw,st:=0,idle:=0,log:=L,ls:=(R i).bs+L.length,cm:=max (R i).cm x.m.cm,offs:=fun _=>none,saves:=(R i).saves++ [⟨true,x.m.vw,a,L.drop (a-(R i).bs),(R i).sb⟩] }:=by
    unfold save begunM1 lay
    simp only[←hL,←ha]
   rw[heq]
   refine h1.then hi fun h' R' hR e v al hm=> ?_
   have h3:=al.p_report hi (by rw[hR]) hx.fr
   rw[hR] at h3
   exact h3
theorem Al.p_change (H:Al n ok N h R kp sv)(hN:N≤TM)(hi:i<n){v:Nat}(hv:(R i).vw<v)(ht:v≤TM):St n ok N h R kp sv i (change (R i) v):=by
 have g:=H.rep i hi
 have hnr:(R i).nr<v:=Nat.lt_of_le_of_lt (H.core.le i hi) hv
 unfold change
 refine(H.p_turn hi hv ht).then hi fun h1 R1 hR1 e1 v1 a1 m1=> ?_
 have s2:=a1.p_kd hi (.inl rfl) (List.range n) fun k hk=>List.mem_range.1 hk
 rw[hR1] at s2
 rw[g.nn]
 refine s2.then hi fun h2 R2 hR2 e2 v2 a2 m2=> ?_
 have s3:=a2.p_offer hi (by rw[hR2,sndL_eq];exact hnr)
 rw[hR2] at s3
 refine s3.then hi fun h3 R3 hR3 e3 v3 a3 m3=> ?_
 have s4:=a3.p_begin hN hi
 rw[hR3] at s4
 exact s4
theorem begin_out (r:Rp O):begin_ r=r∨(begin_ r).st=0:=by
 unfold begin_
 split
 ·split
  ·exact .inl rfl
  ·refine .inr ?_
   dsimp only
   rw[start_eq]
   rfl
 ·exact .inl rfl
theorem Al.p_offerM (H:Al n ok N h R kp sv)(hN:N≤TM)(hi:i<n){x:Sd O}(hx:MI n ok h (fun k=>(R k).vw) x)(hto:x.to=i)(hk:x.m.kd=4)(hmv:x.m.vw=(R i).vw):St n ok N h R kp sv i (offerM (R i) x.m):=by
 have g:=H.rep i hi
 obtain⟨c1,c2,c3,c4⟩:x.m.sb=0∧x.m.ls=0∧x.to=x.m.vw % n∧OF n h (fun k=>(R k).vw) x.m.vw x.m.fr ⟨x.m.nr,x.m.ao,x.m.cm,x.m.ops⟩:=by
  rcases hx.kd with⟨h1,_⟩|⟨h1,_⟩|⟨h1,_⟩|h1|⟨h1,_⟩
  all_goals first|exact h1.2|exact absurd h1 Z18
 unfold offerM
 by_cases hc:(R i).st=1∧x.m.ao≤(R i).ls∧(R i).cm≤x.m.ao+x.m.ops.length
 ·rw[if_pos hc]
  have hlt:=g.st.2.1 hc.1
  have h1:St n ok N h R kp sv i {R i with offs:=upd (R i).offs x.m.fr (some ⟨x.m.nr,x.m.ao,x.m.cm,x.m.ops⟩)}:=by
   refine H.same hi rfl rfl rfl (Nat.le_refl _) rfl ⟨g.id,g.nn,g.st,g.tm,g.sg,g.ls,g.od,g.cm,g.sb,g.bs,fun k o ho=> ?_,g.hl,g.hv,g.out⟩
   have ho':upd (R i).offs x.m.fr (some ⟨x.m.nr,x.m.ao,x.m.cm,x.m.ops⟩) k=some o:=ho
   by_cases e:k=x.m.fr
   ·subst e
    rw[upd_same] at ho'
    cases ho'
    exact⟨hlt,by show(R i).vw % n=i;rw[←hmv,←c3];exact hto,hx.fr,by show OF n h _ (R i).vw _ _;rw[←hmv];exact c4,hc.2.1,hc.2.2⟩
   ·rw[upd_ne _ _ e] at ho'
    exact g.of k o ho'
  refine h1.then hi fun h' R' hR e v a hm=> ?_
  have h3:=a.p_begin hN hi
  rw[hR] at h3
  exact h3
 ·rw[if_neg hc]
  by_cases hl:leads (R i)=true
  ·exact Z72
  ·rw[if_neg hl]
   exact St.refl H i
theorem begin_vw (r:Rp O):(begin_ r).vw=r.vw:=by
 exact Z101
theorem change_vw (r:Rp O)(v:Nat):(change r v).vw=v:=by
 unfold change offer
 rw[begin_vw,snd1_eq,sndL_eq]
 rfl
theorem Al.p_take (H:Al n ok N h R kp sv)(hN:N≤TM)(hi:i<n){x:Sd O}(hx:MI n ok h (fun k=>(R k).vw) x)(hto:x.to=i):St n ok N h R kp sv i (take (R i) x.m):=by
 have g:=H.rep i hi
 have htm:x.m.vw≤TM:=Nat.le_trans hx.vv (H.rep _ hx.fr).tm
 unfold take
 by_cases hlow:x.m.vw<(R i).vw
 ·rw[if_pos hlow]
  split
  ·exact H.p_kd1 hi (.inl rfl) hx.fr
  ·exact St.refl H i
 rw[if_neg hlow]
 by_cases k1:x.m.kd=1
 ·rw[if_pos k1]
  by_cases hup:(R i).vw<x.m.vw
  ·rw[if_pos hup]
   refine(H.p_turn hi hup htm).then hi fun h' R' hR e v a hm=> ?_
   have h3:=a.p_prepare hN hi (hm x hx) hto k1 (by rw[hR];rfl)
   rw[hR] at h3
   exact h3
  ·rw[if_neg hup]
   exact H.p_prepare hN hi hx hto k1 Z18
 rw[if_neg k1]
 by_cases k2:x.m.kd=2
 ·rw[if_pos k2]
  by_cases hup:(R i).vw<x.m.vw
  ·rw[if_pos hup];exact St.refl H i
  ·rw[if_neg hup]
   by_cases hl:leads (R i)=true
   ·rw[if_pos hl]
    refine H.p_have hi hl hx.fr ?_
    rcases hx.kd with⟨h1,_⟩|h1|⟨h1,_⟩|⟨h1,_⟩|⟨h1,_⟩
    ·omega
    ·have h2:=h1.2.2.2.2.2.2.2
     rw[show x.m.vw=(R i).vw by omega] at h2
     exact h2
    all_goals omega
   ·rw[if_neg hl];exact St.refl H i
 rw[if_neg k2]
 by_cases k3:x.m.kd=3
 ·rw[if_pos k3]
  by_cases hup:(R i).vw<x.m.vw
  ·rw[if_pos hup];exact H.p_change hN hi hup htm
  ·exact Z228
 rw[if_neg k3]
 by_cases k4:x.m.kd=4
 ·rw[if_pos k4]
  by_cases hup:(R i).vw<x.m.vw
  ·rw[if_pos hup]
   refine(H.p_change hN hi hup htm).then hi fun h' R' hR e v a hm=> ?_
   have h3:=a.p_offerM hN hi (hm x hx) hto k4 (by rw[hR,change_vw])
   rw[hR] at h3
   exact h3
  ·rw[if_neg hup]
   exact H.p_offerM hN hi hx hto k4 Z18
 rw[if_neg k4]
 by_cases k5:x.m.kd=5
 ·rw[if_pos k5]
  exact H.p_begunM hN hi hx hto k5 Z18 htm
 rw[if_neg k5]
 by_cases k6:x.m.kd=6
 ·rw[if_pos k6]
  by_cases hup:(R i).vw<x.m.vw
  ·rw[if_pos hup];exact St.refl H i
  ·exact Z228
 rw[if_neg k6]
 exact St.refl H i
theorem Al.p_tick (H:Al n ok N h R kp sv)(hN:N≤TM)(hi:i<n):St n ok N h R kp sv i (tick (R i)):=by
 have g:=H.rep i hi
 unfold tick
 by_cases hl:leads (R i)=true
 ·rw[if_pos hl];exact H.p_tell hi hl
 rw[if_neg hl]
 have h1:St n ok N h R kp sv i {R i with idle:=(R i).idle+1}:=H.same hi rfl rfl rfl (Nat.le_refl _) rfl ⟨g.id,g.nn,g.st,g.tm,g.sg,g.ls,g.od,g.cm,g.sb,g.bs,g.of,g.hl,g.hv,g.out⟩
 by_cases h2:4+(R i).id≤(R i).idle+1∧(R i).vw<TM
 ·simp only[if_pos h2]
  refine h1.then hi fun h' R' hR e v a hm=> ?_
  have h3:=a.p_change hN hi (v:=(R i).vw+1) (by rw[hR];exact Nat.lt_succ_self _) h2.2
  rw[hR] at h3
  exact h3
 ·simp only[if_neg h2]
  by_cases h3:(R i).st=1
  ·simp only[if_pos h3]
   have hlt:=g.st.2.1 h3
   refine h1.then hi fun h' R' hR e v a hm=> ?_
   have s2:=a.p_kd hi (.inl rfl) (List.range (R i).n) fun k hk=>by rw[g.nn] at hk;exact List.mem_range.1 hk
   rw[hR] at s2
   refine s2.then hi fun h2 R2 hR2 e2 v2 a2 m2=> ?_
   have s3:=a2.p_offer hi (by rw[hR2,sndL_eq];exact hlt)
   rw[hR2] at s3
   exact s3
  ·simp only[if_neg h3]
   exact h1
variable {O:Type}
structure Gp (O:Type) where
 n:Nat
 r:Nat→Rp O
 kept:Nat→Kt O
 saves:Nat→List (Sv O)
 way:List (Sd O)
 told:Nat→Nat
 order:List O
def clr (r:Rp O):Rp O:= {told r with saves:= [],out:= [] }
def settle (g:Gp O)(i:Nat):Gp O:=
 {g with r:=upd g.r i (clr (g.r i)),saves:=upd g.saves i (g.saves i++(g.r i).saves),way:=g.way++(g.r i).out,told:=upd g.told i (g.r i).cm,order:=g.order++(ready (g.r i)).drop (g.order.length-g.told i)}
def Gp.now (g:Gp O)(i:Nat)(r:Rp O):Gp O:=settle {g with r:=upd g.r i r} i
structure GI (ok:O→Bool)(N:Nat)(h:Gh O)(g:Gp O):Prop where
 al:Al g.n ok N h g.r g.kept g.saves
 em: ∀i,i<g.n→(g.r i).saves= []∧(g.r i).out= []∧g.told i=(g.r i).td∧(g.r i).td≤g.order.length∧(g.kept i).cm≤g.order.length
 wy: ∀x∈g.way,MI g.n ok h (fun k=>(g.r k).vw) x
 od: ∃v,Cm g.n h v g.order.length∧g.order=(h.W v).take g.order.length
structure Gon (n:Nat)(h h':Gh O)(g g':Gp O):Prop where
 nn:g'.n=g.n
 ee:Ext n h h' (fun k=>(g.r k).vw)
 vv: ∀k,k<n→(g.r k).vw≤(g'.r k).vw
theorem ready_len {r:Rp O}(h:r.bs≤r.td∧r.td≤r.cm∧r.cm≤r.ls)(hl:r.ls=r.bs+r.log.length):(ready r).length=r.cm-r.td:=by
 unfold ready
 rw[List.length_take,List.length_drop]
 omega
theorem ready_is {n i:Nat}{ok:O→Bool}{h:Gh O}{vw:Nat→Nat}{r:Rp O}(g:RI n ok h vw i r):ready r=((h.W r.nr).take r.cm).drop r.td:=by
 have h1:=g.sg.drop (r.td-r.bs) (by have:=g.od;have:=g.ls;omega)
 rw[show r.bs+(r.td-r.bs)=r.td by have:=g.od;omega] at h1
 have h2:=(h1.take (r.cm-r.td)).eq
 have h3:((r.log.drop (r.td-r.bs)).take (r.cm-r.td)).length=r.cm-r.td:=ready_len ⟨g.od.1,g.od.2.1,g.od.2.2.1⟩ g.ls
 rw[h3] at h2
 rw[List.drop_take]
 exact h2
theorem RI.told {n i:Nat}{ok:O→Bool}{h:Gh O}{vw:Nat→Nat}{r:Rp O}(g:RI n ok h vw i r):RI n ok h vw i (told r):=by
 have hod:=g.od
 by_cases hc:r.bs<min r.sb r.cm
 ·have he:Vw.told r= {r with td:=r.cm,log:=r.log.drop (min r.sb r.cm-r.bs),bs:=min r.sb r.cm}:=by unfold Vw.told;rw[if_pos hc,if_pos hc]
  rw[he]
  have hm:min r.sb r.cm=r.sb:=Nat.min_eq_left hod.2.2.2
  rw[hm] at hc⊢
  refine⟨g.id,g.nn,g.st,g.tm,?_,?_,⟨hod.2.2.2,Nat.le_refl _,hod.2.2.1,hod.2.2.2⟩,g.cm,g.sb,g.sb,g.of,g.hl,g.hv,g.out⟩
  ·have h1:=g.sg.drop (r.sb-r.bs) (by have:=g.ls;omega)
   rw[show r.bs+(r.sb-r.bs)=r.sb by omega] at h1
   exact h1
  ·show r.ls=r.sb+(r.log.drop (r.sb-r.bs)).length
   rw[List.length_drop]
   have:=g.ls
   omega
 ·have he:Vw.told r= {r with td:=r.cm}:=by unfold Vw.told;rw[if_neg hc,if_neg hc]
  rw[he]
  exact⟨g.id,g.nn,g.st,g.tm,g.sg,g.ls,⟨Nat.le_trans hod.1 hod.2.1,Nat.le_refl _,hod.2.2.1,hod.2.2.2⟩,g.cm,g.sb,g.bs,g.of,g.hl,g.hv,g.out⟩
theorem told_same (r:Rp O):(told r).vw=r.vw∧(told r).nr=r.nr∧(told r).ls=r.ls∧r.bs≤(told r).bs∧(told r).saves=r.saves∧(told r).td=r.cm∧(told r).cm=r.cm∧(told r).st=r.st:=by
 refine⟨rfl,rfl,rfl,?_,rfl,rfl,rfl,rfl⟩
 show r.bs≤if r.bs<min r.sb r.cm then min r.sb r.cm else r.bs
 split
 ·rename_i hc;exact Nat.le_of_lt hc
 ·exact Nat.le_refl _
structure Pre (ok:O→Bool)(N:Nat)(h:Gh O)(g:Gp O)(i:Nat):Prop where
 al:Al g.n ok N h g.r g.kept g.saves
 em: ∀k,k<g.n→k≠i→(g.r k).saves= []∧(g.r k).out= []
 td: ∀k,k<g.n→g.told k=(g.r k).td∧(g.r k).td≤g.order.length∧(g.kept k).cm≤g.order.length
 wy: ∀x∈g.way,MI g.n ok h (fun k=>(g.r k).vw) x
 od: ∃v,Cm g.n h v g.order.length∧g.order=(h.W v).take g.order.length
theorem take_get {α:Type}{l m:List α}{c:Nat}(h:l.take c=m.take c){k:Nat}(hk:k<c):l[k]?=m[k]?:=by
 have h1:=congrArg (fun x=>x[k]?) h
 simp only[List.getElem?_take,if_pos hk] at h1
 exact h1
theorem Pre.same {ok:O→Bool}{N:Nat}{h:Gh O}{g:Gp O}{i:Nat}(p:Pre ok N h g i)(hi:i<g.n): ∀k,k<(ready (g.r i)).length→g.told i+k<g.order.length→g.order[g.told i+k]?=(ready (g.r i))[k]?:=by
 intro k hk hlt
 have r:=p.al.rep i hi
 have hl:=ready_len ⟨r.od.1,r.od.2.1,r.od.2.2.1⟩ r.ls
 obtain⟨v,h1,h2⟩:=p.od
 obtain⟨u,g1,g2⟩:=r.cm
 rw[hl] at hk
 have ht:=(p.td i hi).1
 rw[ready_is r,List.getElem?_drop,List.getElem?_take,if_pos Z18,ht]
 have hW:(h.W (g.r i).nr).take (g.r i).cm=(h.W u).take (g.r i).cm:=(p.al.core.safe' g1 (p.al.core.bn i hi) g2).2
 rw[take_get hW Z18]
 rw[h2,List.getElem?_take,if_pos Z18]
 rcases Nat.le_total (g.r i).cm g.order.length with hc|hc
 ·exact take_get (p.al.core.two g2 h1 hc) Z18
 ·exact(take_get (p.al.core.two h1 g2 hc) Z18).symm
theorem Pre.settle {ok:O→Bool}{N:Nat}{h:Gh O}{g:Gp O}{i:Nat}(p:Pre ok N h g i)(hi:i<g.n):GI ok N h (settle g i):=by
 have r:=p.al.rep i hi
 have hl:=ready_len ⟨r.od.1,r.od.2.1,r.od.2.2.1⟩ r.ls
 obtain⟨s1,s2,s3,s4,s5,s6,s7,s8⟩:=told_same (g.r i)
 have rt:=r.told
 have hvw:(fun k=>(upd g.r i (clr (g.r i)) k).vw)=fun k=>(g.r k).vw:=by
  rw[upd_f g.r Rp.vw]
  exact upd_eta (fun k=>(g.r k).vw) i
 have hnr:(fun k=>(upd g.r i (clr (g.r i)) k).nr)=fun k=>(g.r k).nr:=by
  rw[upd_f g.r Rp.nr]
  exact upd_eta (fun k=>(g.r k).nr) i
 have hls:(fun k=>(upd g.r i (clr (g.r i)) k).ls)=fun k=>(g.r k).ls:=by
  rw[upd_f g.r Rp.ls]
  exact upd_eta (fun k=>(g.r k).ls) i
 obtain⟨v,h1,h2⟩:=p.od
 obtain⟨u,g1,g2⟩:=r.cm
 have htd:=p.td i hi
 have hW:(h.W (g.r i).nr).take (g.r i).cm=(h.W u).take (g.r i).cm:=(p.al.core.safe' g1 (p.al.core.bn i hi) g2).2
 have hcl:(g.r i).cm≤(h.W (g.r i).nr).length:=(p.al.core.safe' g1 (p.al.core.bn i hi) g2).1
 have hord:(g.order++(ready (g.r i)).drop (g.order.length-g.told i)).length=max g.order.length (g.r i).cm:=by
  rw[List.length_append,List.length_drop,hl,htd.1]
  have h3:=r.od.2.1
  have h4:=htd.2.1
  rcases Nat.le_total g.order.length (g.r i).cm with h5|h5
  ·rw[Nat.max_eq_right h5];omega
  ·rw[Nat.max_eq_left h5];omega
 refine⟨⟨?_,fun j hj=> ?_,fun j hj=> ?_,p.al.wok⟩,fun j hj=> ?_,fun x hx=> ?_,?_⟩
 ·show Core g.n h (fun k=>(upd g.r i (clr (g.r i)) k).vw) (fun k=>(upd g.r i (clr (g.r i)) k).nr) (fun k=>(upd g.r i (clr (g.r i)) k).ls)
  rw[hvw,hnr,hls]
  exact p.al.core
 ·show RI g.n ok h (fun k=>(upd g.r i (clr (g.r i)) k).vw) j (upd g.r i (clr (g.r i)) j)
  rw[hvw]
  by_cases e:j=i
  ·subst e
   rw[upd_same]
   exact⟨rt.id,rt.nn,rt.st,rt.tm,rt.sg,rt.ls,rt.od,rt.cm,rt.sb,rt.bs,rt.of,rt.hl,rt.hv,fun x hx=>by cases hx⟩
  ·rw[upd_ne _ _ e];exact p.al.rep j hj
 ·show LDR g.n ok h j (upd g.r i (clr (g.r i)) j).vw (upd g.r i (clr (g.r i)) j).nr (upd g.r i (clr (g.r i)) j).ls (upd g.r i (clr (g.r i)) j).bs (g.kept j) (upd g.saves i (g.saves i++(g.r i).saves) j++(upd g.r i (clr (g.r i)) j).saves)
  by_cases e:j=i
  ·subst e
   rw[upd_same,upd_same]
   obtain⟨l1,l2⟩:=p.al.ld j hj
   show LDR g.n ok h j (g.r j).vw (g.r j).nr (g.r j).ls (told (g.r j)).bs (g.kept j) ((g.saves j++(g.r j).saves)++ [])
   rw[List.append_nil]
   exact⟨l1,Nat.le_trans l2 s4⟩
  ·rw[upd_ne _ _ e,upd_ne _ _ e];exact p.al.ld j hj
 ·show(upd g.r i (clr (g.r i)) j).saves= []∧(upd g.r i (clr (g.r i)) j).out= []∧upd g.told i (g.r i).cm j=(upd g.r i (clr (g.r i)) j).td∧(upd g.r i (clr (g.r i)) j).td≤(g.order++(ready (g.r i)).drop (g.order.length-g.told i)).length∧(g.kept j).cm≤(g.order++(ready (g.r i)).drop (g.order.length-g.told i)).length
  rw[hord]
  by_cases e:j=i
  ·subst e
   rw[upd_same,upd_same]
   exact⟨rfl,rfl,rfl,Nat.le_max_right _ _,Nat.le_trans htd.2.2 (Nat.le_max_left _ _)⟩
  ·rw[upd_ne _ _ e,upd_ne _ _ e]
   have h3:=p.td j hj
   exact⟨(p.em j hj e).1,(p.em j hj e).2,h3.1,Nat.le_trans h3.2.1 (Nat.le_max_left _ _),Nat.le_trans h3.2.2 (Nat.le_max_left _ _)⟩
 ·show MI g.n ok h (fun k=>(upd g.r i (clr (g.r i)) k).vw) x
  rw[hvw]
  have hx':x∈g.way++(g.r i).out:=hx
  rcases List.mem_append.1 hx' with hx'|hx'
  ·exact p.wy x hx'
  ·exact r.out x hx'
 ·show∃v,Cm g.n h v (g.order++(ready (g.r i)).drop (g.order.length-g.told i)).length∧g.order++(ready (g.r i)).drop (g.order.length-g.told i)=(h.W v).take (g.order++(ready (g.r i)).drop (g.order.length-g.told i)).length
  rw[hord]
  rcases Nat.le_total (g.r i).cm g.order.length with hc|hc
  ·rw[Nat.max_eq_left hc]
   have h3:(ready (g.r i)).drop (g.order.length-g.told i)= []:=List.drop_eq_nil_of_le (by rw[hl,htd.1];have:=r.od.2.1;omega)
   rw[h3,List.append_nil]
   exact⟨v,h1,h2⟩
  ·rw[Nat.max_eq_right hc]
   refine⟨u,g2,?_⟩
   rw[ready_is r,List.drop_drop,htd.1,show(g.r i).td+(g.order.length-(g.r i).td)=g.order.length by have:=htd.2.1;omega]
   have h3:g.order=((h.W u).take (g.r i).cm).take g.order.length:=by
    rw[List.take_take,Nat.min_eq_left hc]
    exact h2.trans (p.al.core.two h1 g2 hc).symm
   rw[hW]
   exact(congrArg (· ++((h.W u).take (g.r i).cm).drop g.order.length) h3).trans (List.take_append_drop _ _)
end Go.Proofs.YtdmjegelcdghlaaGreat.Vw
