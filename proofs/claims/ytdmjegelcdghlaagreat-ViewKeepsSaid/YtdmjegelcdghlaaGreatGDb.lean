/-
  Chapter 22, plain: logs of views, what was acknowledged, what is sure: two views' logs agree on what is sure. No program here.
-/
import Derived.Test.YtdmjegelcdghlaaGreatGDc
import Derived.KernelRfl
set_option maxRecDepth 100000
set_option maxHeartbeats 64000000
set_option linter.unusedVariables false
set_option linter.unusedSimpArgs false
namespace Go.Proofs.YtdmjegelcdghlaaGreat
theorem Z85 {p:Prop}(h:p:=by
 by_cases e:k=i
 ·subst e;rw[upd_same];exact hv
 ·rw[upd_ne _ _ e];exact Nat.le_refl _):p:=h
theorem Z18 {p:Prop}(h:p:=by omega):p:=h
end Go.Proofs.YtdmjegelcdghlaaGreat
namespace Go.Proofs.YtdmjegelcdghlaaGreat.Vw
variable {O:Type}
def Maj (n:Nat)(p:Nat→Bool):Prop:=n/2+1≤(List.range n).countP p
theorem count_two (p q:Nat→Bool): ∀l:List Nat,(∀k∈l,¬(p k=true∧q k=true))→l.countP p+l.countP q≤l.length:=by
 intro l
 induction l with
 |nil=>intro _;simp
 |cons a l ih=>
  intro h
  have h1:=ih fun k hk=>h k (List.mem_cons_of_mem _ hk)
  have h2:=h a List.mem_cons_self
  rw[List.countP_cons,List.countP_cons,List.length_cons]
  by_cases hp:p a=true
  ·have hq: ¬q a=true:=fun hq=>h2 ⟨hp,hq⟩
   rw[if_pos hp,if_neg hq];omega
  ·rw[if_neg hp]
   split<;>omega
theorem Maj.meet {n:Nat}{p q:Nat→Bool}(h:Maj n p)(g:Maj n q): ∃k,k<n∧p k=true∧q k=true:=by
 refine Classical.byContradiction fun hn=> ?_
 have h1:=count_two p q (List.range n) fun k hk hpq=>hn ⟨k,List.mem_range.1 hk,hpq⟩
 rw[List.length_range] at h1
 unfold Maj at h g
 omega
theorem Maj.mono {n:Nat}{p q:Nat→Bool}(h:Maj n p)(hs: ∀k,k<n→p k=true→q k=true):Maj n q:=
 Nat.le_trans h (List.countP_mono_left fun k hk=>hs k (List.mem_range.1 hk))
theorem Maj.all {n:Nat}{p:Nat→Bool}(hn:1≤n)(h: ∀k,k<n→p k=true):Maj n p:=by
 unfold Maj
 rw[List.countP_eq_length.2 fun k hk=>h k (List.mem_range.1 hk),List.length_range]
 omega
theorem Maj.ex {n:Nat}{p:Nat→Bool}(h:Maj n p): ∃k,k<n∧p k=true:=by
 obtain⟨k,hk,h1,_⟩:=h.meet h
 exact⟨k,hk,h1⟩
theorem Maj.pos {n:Nat}{p:Nat→Bool}(h:Maj n p):1≤n:=by
 obtain⟨k,hk,_⟩:=h.ex;omega
structure Gh (O:Type) where
 W:Nat→List O
 I:Nat→Nat
 B:Nat→Prop
 A:Nat→Nat→Nat
def Cm (n:Nat)(h:Gh O)(v c:Nat):Prop:=h.B v∧Maj n fun k=>decide (c≤h.A v k)
def Sb (n:Nat)(h:Gh O)(v b:Nat):Prop:=h.B v∧ ∀k,k<n→b≤h.A v k
theorem Sb.cm {n:Nat}{h:Gh O}{v b:Nat}(s:Sb n h v b)(hn:1≤n):Cm n h v b:=⟨s.1,Maj.all hn fun k hk=>by simpa using s.2 k hk⟩
theorem Cm.le {n:Nat}{h:Gh O}{v b c:Nat}(s:Cm n h v c)(hb:b≤c):Cm n h v b:=⟨s.1,s.2.mono fun k _ hk=>by simp at hk⊢;omega⟩
theorem Sb.le {n:Nat}{h:Gh O}{v b c:Nat}(s:Sb n h v c)(hb:b≤c):Sb n h v b:=⟨s.1,fun k hk=>Nat.le_trans hb (s.2 k hk)⟩
def Beg (n:Nat)(h:Gh O)(vw:Nat→Nat)(v:Nat):Prop:=
 ∃(q:Nat→Option (Nat×Nat)) (kb ub lb:Nat),Maj n (fun k=>(q k).isSome)∧
  (∀k u l,q k=some (u,l)→k<n∧v≤vw k∧u<v∧h.B u∧h.I u≤l∧l≤(h.W u).length∧(∀w,w<v→0<h.A w k→w≤u∧(w=u→h.A w k≤l))∧(u<ub∨u=ub∧l≤lb))∧
  q kb=some (ub,lb)∧h.I v=lb∧(h.W v).take lb=(h.W ub).take lb
structure Core (n:Nat)(h:Gh O)(vw nr ls:Nat→Nat):Prop where
 n1:1≤n
 b0:h.B 0
 i0:h.I 0=0
 iw: ∀v,h.B v→h.I v≤(h.W v).length
 nb: ∀v,¬h.B v→h.W v= []∧ ∀k,h.A v k=0
 pv: ∀v,h.B v→v≤nr (v % n)
 pl: ∀i,i<n→nr i % n=i→ls i=(h.W (nr i)).length
 bn: ∀i,i<n→h.B (nr i)
 le: ∀i,i<n→nr i≤vw i
 li: ∀i,i<n→h.I (nr i)≤ls i∧ls i≤(h.W (nr i)).length
 al: ∀i,i<n→h.A (nr i) i=ls i
 ah: ∀i,i<n→ ∀v,nr i<v→h.A v i=0
 aw: ∀i,i<n→ ∀v,h.A v i≤(h.W v).length
 bg: ∀v,h.B v→0<v→Beg n h vw v
theorem take_le {l l':List O}{a b:Nat}(h:l.take b=l'.take b)(hab:a≤b):l.take a=l'.take a:=by
 have:=congrArg (List.take a) h
 rwa[List.take_take,List.take_take,Nat.min_eq_left hab] at this
theorem Core.safe {n:Nat}{h:Gh O}{vw nr ls:Nat→Nat}(H:Core n h vw nr ls): ∀v',∀v c,v<v'→h.B v'→Cm n h v c→c≤h.I v'∧(h.W v').take c=(h.W v).take c:=by
 intro v'
 induction v' using Nat.strongRecOn with
 |_ v' ih=>
  intro v c hv hb hc
  rcases Nat.eq_zero_or_pos c with rfl|hc0
  ·simp
  obtain⟨q,kb,ub,lb,hM,hq,hkb,hI,hW⟩:=H.bg v' hb Z18
  obtain⟨k,hk,hk1,hk2⟩:=hc.2.meet hM
  simp only[decide_eq_true_eq] at hk1
  obtain⟨⟨u,l⟩,hul⟩:=Option.isSome_iff_exists.1 hk2
  obtain⟨_,_,hu,hBu,hIu,hlu,hfz,hbest⟩:=hq k u l hul
  obtain⟨_,_,hub,hBub,hIub,hlub,_,_⟩:=hq kb ub lb hkb
  obtain⟨hvu,hvl⟩:=hfz v hv Z18
  have hcl:c≤l:=by
   rcases Nat.lt_or_ge v u with h1|h1
   ·have:=(ih u hu v c h1 hBu hc).1;omega
   ·have:=hvl Z18;omega
  have hcb:c≤lb∧(h.W ub).take c=(h.W v).take c:=by
   rcases Nat.lt_or_ge v ub with h1|h1
   ·obtain⟨h2,h3⟩:=ih ub hub v c h1 hBub hc
    exact⟨Z18,h3⟩
   ·have e:ub=v:=by omega
    subst e
    exact⟨Z18,rfl⟩
  refine⟨Z18,?_⟩
  rw[take_le hW hcb.1]
  exact hcb.2
theorem Core.safe' {n:Nat}{h:Gh O}{vw nr ls:Nat→Nat}(H:Core n h vw nr ls){v v' c:Nat}(hv:v≤v')(hb:h.B v')(hc:Cm n h v c):c≤(h.W v').length∧(h.W v').take c=(h.W v).take c:=by
 rcases Nat.lt_or_ge v v' with h1|h1
 ·obtain⟨h2,h3⟩:=H.safe v' v c h1 hb hc
  exact⟨Nat.le_trans h2 (H.iw v' hb),h3⟩
 ·have e:v'=v:=by omega
  subst e
  obtain⟨k,hk,h2⟩:=hc.2.ex
  simp only[decide_eq_true_eq] at h2
  exact⟨Nat.le_trans h2 (H.aw k hk v'),rfl⟩
theorem Core.two {n:Nat}{h:Gh O}{vw nr ls:Nat→Nat}(H:Core n h vw nr ls){v v' c d:Nat}(hc:Cm n h v c)(hd:Cm n h v' d)(hcd:c≤d):(h.W v').take c=(h.W v).take c:=by
 rcases Nat.le_total v v' with h1|h1
 ·exact(H.safe' h1 hd.1 hc).2
 ·exact(H.safe' h1 hc.1 (hd.le hcd)).2.symm
theorem Core.mine {n:Nat}{h:Gh O}{vw nr ls:Nat→Nat}(H:Core n h vw nr ls){i v c:Nat}(hi:i<n)(hv:v<nr i)(hc:Cm n h v c):c≤ls i:=
 Nat.le_trans (H.safe _ v c hv (H.bn i hi) hc).1 (H.li i hi).1
theorem Core.sb {n:Nat}{h:Gh O}{vw nr ls:Nat→Nat}(H:Core n h vw nr ls){i v b:Nat}(hi:i<n)(hs:Sb n h v b):b≤ls i∧(h.W (nr i)).take b=(h.W v).take b:=by
 rcases Nat.eq_zero_or_pos b with rfl|hb
 ·simp
 have h1:v≤nr i:=by
  refine Nat.not_lt.1 fun h2=> ?_
  have h3:=H.ah i hi v h2
  have h4:=hs.2 i hi
  omega
 refine⟨?_,(H.safe' h1 (H.bn i hi) (hs.cm H.n1)).2⟩
 rcases Nat.lt_or_ge v (nr i) with h2|h2
 ·exact H.mine hi h2 (hs.cm H.n1)
 ·have e:nr i=v:=by omega
  rw[←H.al i hi,e]
  exact hs.2 i hi
structure Ext (n:Nat)(h h':Gh O)(vw:Nat→Nat):Prop where
 b: ∀v,h.B v→h'.B v∧h'.I v=h.I v
 w: ∀v,h.B v→h.W v<+:h'.W v
 a: ∀v k,h.A v k≤h'.A v k
 fz: ∀k,k<n→ ∀v,v<vw k→h'.A v k=h.A v k
theorem Ext.refl (n:Nat)(h:Gh O)(vw:Nat→Nat):Ext n h h vw:=⟨fun _ h=>⟨h,rfl⟩,fun _ _=>List.prefix_refl _,fun _ _=>Nat.le_refl _,fun _ _ _ _=>rfl⟩
theorem Ext.trans {n:Nat}{h h1 h2:Gh O}{vw vw1:Nat→Nat}(e:Ext n h h1 vw)(f:Ext n h1 h2 vw1)(hv: ∀k,k<n→vw k≤vw1 k):Ext n h h2 vw:=
 ⟨fun v hb=>⟨(f.b v (e.b v hb).1).1,((f.b v (e.b v hb).1).2).trans (e.b v hb).2⟩,fun v hb=>(e.w v hb).trans (f.w v (e.b v hb).1),fun v k=>Nat.le_trans (e.a v k) (f.a v k),fun k hk v hv'=>(f.fz k hk v (Nat.lt_of_lt_of_le hv' (hv k hk))).trans (e.fz k hk v hv')⟩
theorem Ext.cm {n:Nat}{h h':Gh O}{vw:Nat→Nat}(e:Ext n h h' vw){v c:Nat}(s:Cm n h v c):Cm n h' v c:=⟨(e.b v s.1).1,s.2.mono fun k _ hk=>by have:=e.a v k;simp at hk⊢;omega⟩
theorem Ext.sb {n:Nat}{h h':Gh O}{vw:Nat→Nat}(e:Ext n h h' vw){v c:Nat}(s:Sb n h v c):Sb n h' v c:=⟨(e.b v s.1).1,fun k hk=>Nat.le_trans (s.2 k hk) (e.a v k)⟩
theorem prefix_take {l l':List O}(h:l<+:l'){c:Nat}(hc:c≤l.length):l'.take c=l.take c:=by
 obtain⟨t,rfl⟩:=h
 rw[List.take_append_of_le_length hc]
theorem Ext.take {n:Nat}{h h':Gh O}{vw:Nat→Nat}(e:Ext n h h' vw){v c:Nat}(hb:h.B v)(hc:c≤(h.W v).length):(h'.W v).take c=(h.W v).take c:=prefix_take (e.w v hb) hc
theorem Ext.len {n:Nat}{h h':Gh O}{vw:Nat→Nat}(e:Ext n h h' vw){v:Nat}(hb:h.B v):(h.W v).length≤(h'.W v).length:=(e.w v hb).length_le
theorem Ext.beg {n:Nat}{h h':Gh O}{vw vw':Nat→Nat}(e:Ext n h h' vw)(hv: ∀k,k<n→vw k≤vw' k){v:Nat}(hb:h.B v)(hlv:h.I v≤(h.W v).length)(s:Beg n h vw v):Beg n h' vw' v:=by
 obtain⟨q,kb,ub,lb,hM,hq,hkb,hI,hW⟩:=s
 refine⟨q,kb,ub,lb,hM,fun k u l hul=> ?_,hkb,(e.b v hb).2.trans hI,?_⟩
 ·obtain⟨h1,h2,h3,h4,h5,h6,h7,h8⟩:=hq k u l hul
  refine⟨h1,Nat.le_trans h2 (hv k h1),h3,(e.b u h4).1,by rw[(e.b u h4).2];exact h5,Nat.le_trans h6 (e.len h4),fun w hw h0=> ?_,h8⟩
  rw[e.fz k h1 w Z18] at h0⊢
  exact h7 w hw h0
 ·obtain⟨h1,h2,h3,h4,h5,h6,h7,h8⟩:=hq kb ub lb hkb
  rw[e.take hb Z18,e.take h4 h6]
  exact hW
def Gh.put (h:Gh O)(v i len:Nat)(Wv:List O)(Iv:Nat):Gh O:=
 ⟨upd h.W v Wv,upd h.I v Iv,fun u=>h.B u∨u=v,fun u k=>if u=v∧k=i then len else h.A u k⟩
theorem upd_same {α:Type}(f:Nat→α)(i:Nat)(a:α):upd f i a i=a:=by unfold upd;rw[if_pos rfl]
theorem upd_ne {α:Type}(f:Nat→α){i j:Nat}(a:α)(h:j≠i):upd f i a j=f j:=by unfold upd;rw[if_neg h]
theorem put_ext {n:Nat}{h:Gh O}{vw nr ls:Nat→Nat}(H:Core n h vw nr ls){i v len:Nat}{Wv:List O}{Iv:Nat}(hi:i<n)(hv:vw i≤v)(hw:h.W v<+:Wv)(hI:h.B v→Iv=h.I v)(hl:nr i=v→ls i≤len):
 Ext n h (h.put v i len Wv Iv) vw:=by
 refine⟨fun u hu=>⟨.inl hu,?_⟩,fun u hu=> ?_,fun u k=> ?_,fun k hk u hu=> ?_⟩
 ·by_cases e:u=v
  ·subst e
   show upd h.I u Iv u=_
   rw[upd_same];exact hI hu
  ·exact upd_ne _ _ e
 ·by_cases e:u=v
  ·subst e
   show _<+:upd h.W u Wv u
   rw[upd_same];exact hw
  ·show _<+:upd h.W v Wv u
   rw[upd_ne _ _ e];exact List.prefix_refl _
 ·show h.A u k≤if u=v∧k=i then len else h.A u k
  split
  ·rename_i e
   obtain⟨rfl,rfl⟩:=e
   rcases Nat.lt_or_ge (nr k) u with h1|h1
   ·rw[H.ah k hi u h1];omega
   ·have h2:nr k=u:=by have:=H.le k hi;omega
    have h3:=H.al k hi
    rw[h2] at h3
    rw[h3];exact hl h2
  ·exact Nat.le_refl _
 ·show(if u=v∧k=i then len else h.A u k)=_
  rw[if_neg]
  rintro⟨rfl,rfl⟩
  omega
theorem put_core {n:Nat}{h:Gh O}{vw nr ls:Nat→Nat}(H:Core n h vw nr ls){i v len:Nat}{Wv:List O}{Iv:Nat}(hi:i<n)(hv:vw i≤v)(hw:h.W v<+:Wv)(hI:h.B v→Iv=h.I v)(hl:nr i=v→ls i≤len)
 (hlen:Iv≤len∧len≤Wv.length) (hp:v % n=i→len=Wv.length) (hq:v % n≠i→h.B v∧Wv=h.W v) (hbg: ¬h.B v→Beg n (h.put v i len Wv Iv) (upd vw i v) v):
 Core n (h.put v i len Wv Iv) (upd vw i v) (upd nr i v) (upd ls i len):=by
 have E:=put_ext H (len:=len) (Iv:=Iv) hi hv hw hI hl
 have hnv:nr i≤v:=Nat.le_trans (H.le i hi) hv
 have hvw: ∀k,k<n→vw k≤upd vw i v k:=fun k hk=>by
  exact Z85
 have hWv:(h.put v i len Wv Iv).W v=Wv:=upd_same _ _ _
 have hWu: ∀u,u≠v→(h.put v i len Wv Iv).W u=h.W u:=fun u hu=>upd_ne _ _ hu
 have hIv:(h.put v i len Wv Iv).I v=Iv:=upd_same _ _ _
 have hIu: ∀u,u≠v→(h.put v i len Wv Iv).I u=h.I u:=fun u hu=>upd_ne _ _ hu
 have hAi:(h.put v i len Wv Iv).A v i=len:=if_pos ⟨rfl,rfl⟩
 have hAo: ∀u k,¬(u=v∧k=i)→(h.put v i len Wv Iv).A u k=h.A u k:=fun u k hu=>if_neg hu
 have hBv:(h.put v i len Wv Iv).B v:= .inr rfl
 refine⟨H.n1,.inl H.b0,?_,fun u hu=> ?_,fun u hu=> ?_,fun u hu=> ?_,fun j hj hjp=> ?_,fun j hj=> ?_,fun j hj=> ?_,fun j hj=> ?_,fun j hj=> ?_,fun j hj u hu=> ?_,fun j hj u=> ?_,fun u hu hu0=> ?_⟩
 ·rw[(E.b 0 H.b0).2];exact H.i0
 ·by_cases e:u=v
  ·subst e;rw[hIv,hWv];omega
  ·rw[hIu u e,hWu u e]
   rcases hu with hu|hu
   ·exact H.iw u hu
   ·exact absurd hu e
 ·have h1: ¬h.B u:=fun hb=>hu (.inl hb)
  have h2:u≠v:=fun e=>hu (.inr e)
  refine⟨by rw[hWu u h2];exact(H.nb u h1).1,fun k=> ?_⟩
  rw[hAo u k (fun e=>h2 e.1)];exact(H.nb u h1).2 k
 ·by_cases e:u % n=i
  ·rw[e,upd_same]
   rcases hu with hu|hu
   ·have:=H.pv u hu;rw[e] at this;omega
   ·omega
  ·rw[upd_ne _ _ e]
   rcases hu with hu|hu
   ·exact H.pv u hu
   ·subst hu;exact H.pv u (hq e).1
 ·by_cases e:j=i
  ·subst e;rw[upd_same] at hjp;rw[upd_same,upd_same,hWv];exact hp hjp
  ·rw[upd_ne _ _ e] at hjp
   rw[upd_ne _ _ e,upd_ne _ _ e,H.pl j hj hjp]
   by_cases e2:nr j=v
   ·rw[e2,hWv,(hq (by rw[←e2,hjp];exact e)).2]
   ·rw[hWu _ e2]
 ·by_cases e:j=i
  ·subst e;rw[upd_same];exact hBv
  ·rw[upd_ne _ _ e];exact .inl (H.bn j hj)
 ·by_cases e:j=i
  ·subst e;rw[upd_same,upd_same];exact Nat.le_refl _
  ·rw[upd_ne _ _ e,upd_ne _ _ e];exact H.le j hj
 ·by_cases e:j=i
  ·subst e;rw[upd_same,upd_same,hIv,hWv];exact hlen
  ·rw[upd_ne _ _ e,upd_ne _ _ e,(E.b _ (H.bn j hj)).2]
   exact⟨(H.li j hj).1,Nat.le_trans (H.li j hj).2 (E.len (H.bn j hj))⟩
 ·by_cases e:j=i
  ·subst e;rw[upd_same,upd_same];exact hAi
  ·rw[upd_ne _ _ e,upd_ne _ _ e,hAo _ _ (fun h=>e h.2)];exact H.al j hj
 ·by_cases e:j=i
  ·subst e
   rw[upd_same] at hu
   rw[hAo u j (fun h=>by have:=h.1;omega)]
   exact H.ah j hj u Z18
  ·rw[upd_ne _ _ e] at hu
   rw[hAo u j (fun h=>e h.2)]
   exact H.ah j hj u hu
 ·by_cases e:u=v∧j=i
  ·rw[e.1,e.2,hAi,hWv];omega
  ·rw[hAo u j e]
   refine Nat.le_trans (H.aw j hj u) ?_
   by_cases e2:u=v
   ·subst e2;rw[hWv];exact hw.length_le
   ·rw[hWu u e2];exact Nat.le_refl _
 ·by_cases hb:h.B u
  ·exact E.beg hvw hb (H.iw u hb) (H.bg u hb hu0)
  ·have e:u=v:=by
    rcases hu with hu|hu
    ·exact absurd hu hb
    ·exact hu
   subst e
   exact hbg hb
theorem Core.rise {n:Nat}{h:Gh O}{vw nr ls:Nat→Nat}(H:Core n h vw nr ls){i v:Nat}(hi:i<n)(hv:vw i≤v):Core n h (upd vw i v) nr ls:=by
 have hvw: ∀k,k<n→vw k≤upd vw i v k:=fun k hk=>by
  exact Z85
 exact⟨H.n1,H.b0,H.i0,H.iw,H.nb,H.pv,H.pl,H.bn,fun j hj=>Nat.le_trans (H.le j hj) (hvw j hj),H.li,H.al,H.ah,H.aw,fun u hu h0=>(Ext.refl n h vw).beg hvw hu (H.iw u hu) (H.bg u hu h0)⟩
end Go.Proofs.YtdmjegelcdghlaaGreat.Vw
namespace Go.Proofs.YtdmjegelcdghlaaGreat
theorem Z141 {p:Prop}(h:p:=by
 rcases Nat.le_total c d with h1|h1
 ·rw[Nat.max_eq_right h1];exact t
 ·rw[Nat.max_eq_left h1];exact s):p:=h
theorem Z97 {p:Prop}(h:p:=by simp):p:=h
end Go.Proofs.YtdmjegelcdghlaaGreat
namespace Go.Proofs.YtdmjegelcdghlaaGreat.Vw
variable {O:Type}
def Sg (L:List O)(a:Nat)(ops:List O):Prop:=a≤L.length∧ops<+:L.drop a
theorem Sg.le {L:List O}{a:Nat}{ops:List O}(h:Sg L a ops):a+ops.length≤L.length:=by
 have:=h.2.length_le
 rw[List.length_drop] at this
 have:=h.1
 omega
theorem drop_prefix {L L':List O}(h:L<+:L')(a:Nat)(ha:a≤L.length):L.drop a<+:L'.drop a:=by
 obtain⟨t,rfl⟩:=h
 rw[List.drop_append_of_le_length ha]
 exact List.prefix_append _ _
theorem Sg.ext {L L':List O}{a:Nat}{ops:List O}(h:Sg L a ops)(e:L<+:L'):Sg L' a ops:=
 ⟨Nat.le_trans h.1 e.length_le,h.2.trans (drop_prefix e a h.1)⟩
theorem Sg.nil {L:List O}{a:Nat}(h:a≤L.length):Sg L a []:=⟨h,List.nil_prefix⟩
theorem Sg.drop {L:List O}{a:Nat}{ops:List O}(h:Sg L a ops)(k:Nat)(hk:k≤ops.length):Sg L (a+k) (ops.drop k):=by
 refine⟨by have:=h.le;omega,?_⟩
 rw[←List.drop_drop]
 exact drop_prefix h.2 k hk
theorem Sg.take {L:List O}{a:Nat}{ops:List O}(h:Sg L a ops)(k:Nat):Sg L a (ops.take k):=⟨h.1,(List.take_prefix k ops).trans h.2⟩
theorem Sg.app {L:List O}{a:Nat}{ops m:List O}(h:Sg L a ops)(g:Sg L (a+ops.length) m):Sg L a (ops++m):=by
 refine⟨h.1,?_⟩
 obtain⟨t,ht⟩:=h.2
 have h1:L.drop (a+ops.length)=t:=by
  rw[←List.drop_drop,←ht,List.drop_left]
 obtain⟨t2,ht2⟩:=g.2
 rw[h1] at ht2
 rw[←ht,←ht2,←List.append_assoc]
 exact List.prefix_append _ _
theorem Sg.agree {L L':List O}{a c:Nat}{ops:List O}(h:Sg L a ops)(e:L.take c=L'.take c)(hc:a+ops.length≤c):Sg L' a ops:=by
 have h1:ops<+:(L.take c).drop a:=by
  rw[List.drop_take,List.prefix_take_iff]
  exact⟨h.2,Z18⟩
 rw[e] at h1
 have hle:a≤L'.length:=by
  have h2:=congrArg List.length e
  rw[List.length_take,List.length_take] at h2
  have:=h.le
  omega
 refine⟨hle,?_⟩
 rw[List.drop_take,List.prefix_take_iff] at h1
 exact h1.1
theorem Sg.eq {L:List O}{a:Nat}{ops:List O}(h:Sg L a ops):ops=(L.drop a).take ops.length:=(List.prefix_iff_eq_take.1 h.2)
theorem Sg.full {L:List O}{a:Nat}{ops:List O}(h:Sg L a ops)(e:a+ops.length=L.length):ops=L.drop a:=by
 have h1:=h.eq
 rw[List.take_of_length_le (by rw[List.length_drop];omega)] at h1
 exact h1
theorem lay_sg {L L':List O}{bs ao c:Nat}{log ops:List O}(h:Sg L bs log)(g:Sg L' ao ops)(h1:bs≤c)(h2:ao≤c)(h3:c≤bs+log.length)(h4:c≤ao+ops.length)(e:L.take c=L'.take c):
 Sg L' bs (log.take (c-bs)++ops.drop (c-ao))∧bs+(log.take (c-bs)++ops.drop (c-ao)).length=ao+ops.length:=by
 have hl:(log.take (c-bs)).length=c-bs:=by rw[List.length_take];omega
 refine⟨?_,by rw[List.length_append,hl,List.length_drop];omega⟩
 refine Sg.app ((h.take _).agree e Z18) ?_
 rw[hl]
 have h5:=g.drop (c-ao) Z18
 rw[show ao+(c-ao)=bs+(c-bs) by omega] at h5
 exact h5
def Sure (n:Nat)(h:Gh O)(v c:Nat):Prop:= ∃u,u≤v∧Cm n h u c
def Stab (n:Nat)(h:Gh O)(v b:Nat):Prop:= ∃u,u≤v∧Sb n h u b
theorem Sure.le {n:Nat}{h:Gh O}{v c d:Nat}(s:Sure n h v c)(hd:d≤c):Sure n h v d:=by obtain⟨u,h1,h2⟩:=s;exact⟨u,h1,h2.le hd⟩
theorem Stab.le {n:Nat}{h:Gh O}{v c d:Nat}(s:Stab n h v c)(hd:d≤c):Stab n h v d:=by obtain⟨u,h1,h2⟩:=s;exact⟨u,h1,h2.le hd⟩
theorem Sure.up {n:Nat}{h:Gh O}{v v' c:Nat}(s:Sure n h v c)(hv:v≤v'):Sure n h v' c:=by obtain⟨u,h1,h2⟩:=s;exact⟨u,Z18,h2⟩
theorem Stab.up {n:Nat}{h:Gh O}{v v' c:Nat}(s:Stab n h v c)(hv:v≤v'):Stab n h v' c:=by obtain⟨u,h1,h2⟩:=s;exact⟨u,Z18,h2⟩
theorem Stab.sure {n:Nat}{h:Gh O}{v c:Nat}(s:Stab n h v c)(hn:1≤n):Sure n h v c:=by obtain⟨u,h1,h2⟩:=s;exact⟨u,h1,h2.cm hn⟩
theorem Ext.sure {n:Nat}{h h':Gh O}{vw:Nat→Nat}(e:Ext n h h' vw){v c:Nat}(s:Sure n h v c):Sure n h' v c:=by obtain⟨u,h1,h2⟩:=s;exact⟨u,h1,e.cm h2⟩
theorem Ext.stab {n:Nat}{h h':Gh O}{vw:Nat→Nat}(e:Ext n h h' vw){v c:Nat}(s:Stab n h v c):Stab n h' v c:=by obtain⟨u,h1,h2⟩:=s;exact⟨u,h1,e.sb h2⟩
theorem Sure.max {n:Nat}{h:Gh O}{v c d:Nat}(s:Sure n h v c)(t:Sure n h v d):Sure n h v (max c d):=by
 exact Z141
theorem Stab.max {n:Nat}{h:Gh O}{v c d:Nat}(s:Stab n h v c)(t:Stab n h v d):Stab n h v (max c d):=by
 exact Z141
theorem Core.sure0 {n:Nat}{h:Gh O}{vw nr ls:Nat→Nat}(H:Core n h vw nr ls)(v:Nat):Sure n h v 0:=⟨0,Nat.zero_le _,H.b0,Maj.all H.n1 fun _ _=>Z97⟩
theorem Core.stab0 {n:Nat}{h:Gh O}{vw nr ls:Nat→Nat}(H:Core n h vw nr ls)(v:Nat):Stab n h v 0:=⟨0,Nat.zero_le _,H.b0,fun _ _=>Nat.zero_le _⟩
theorem Core.stab_ls {n:Nat}{h:Gh O}{vw nr ls:Nat→Nat}(H:Core n h vw nr ls){v b i:Nat}(hi:i<n)(s:Stab n h v b):b≤ls i:=by
 obtain⟨u,g1,g2⟩:=s
 exact(H.sb hi g2).1
structure OF (n:Nat)(h:Gh O)(vw:Nat→Nat)(v k:Nat)(o:Of O):Prop where
 vk:v≤vw k
 nr:o.nr<v
 b:h.B o.nr
 sg:Sg (h.W o.nr) o.ao o.ops
 i:h.I o.nr≤o.last
 cm:Sure n h o.nr o.cm
 le:o.ao≤o.cm∧o.cm≤o.last
 ao:Stab n h o.nr o.ao
 fz: ∀w,w<v→0<h.A w k→w≤o.nr∧(w=o.nr→h.A w k≤o.last)
theorem OF.ext {n:Nat}{h h':Gh O}{vw vw':Nat→Nat}{v k:Nat}{o:Of O}(f:OF n h vw v k o)(e:Ext n h h' vw)(hk:k<n)(hv:vw k≤vw' k):OF n h' vw' v k o:=
 ⟨Nat.le_trans f.vk hv,f.nr,(e.b _ f.b).1,f.sg.ext (e.w _ f.b),by rw[(e.b _ f.b).2];exact f.i,e.sure f.cm,f.le,e.stab f.ao,fun w hw h0=>by
  rw[e.fz k hk w (Nat.lt_of_lt_of_le hw f.vk)] at h0⊢
  exact f.fz w hw h0⟩
structure MI (n:Nat)(ok:O→Bool)(h:Gh O)(vw:Nat→Nat)(x:Sd O):Prop where
 to:x.to<n
 fr:x.m.fr<n
 ne:x.m.fr≠x.to
 vv:x.m.vw≤vw x.m.fr
 kd:(x.m.kd=1∧x.m.ls=0∧x.m.nr=0∧x.m.fr=x.m.vw % n∧h.B x.m.vw∧Sg (h.W x.m.vw) x.m.ao x.m.ops∧Sure n h x.m.vw x.m.cm∧x.m.cm≤x.m.ao+x.m.ops.length∧Stab n h x.m.vw x.m.sb∧x.m.sb≤x.m.cm)∨
  (x.m.kd=2∧x.m.ao=0∧x.m.ops= []∧x.m.cm=0∧x.m.sb=0∧x.m.nr=0∧h.B x.m.vw∧x.m.ls≤h.A x.m.vw x.m.fr)∨
  ((x.m.kd=3∨x.m.kd=6)∧x.m.ao=0∧x.m.ops= []∧x.m.cm=0∧x.m.sb=0∧x.m.nr=0∧x.m.ls=0)∨
  (x.m.kd=4∧x.m.sb=0∧x.m.ls=0∧x.to=x.m.vw % n∧OF n h vw x.m.vw x.m.fr ⟨x.m.nr,x.m.ao,x.m.cm,x.m.ops⟩)∨
  (x.m.kd=5∧x.m.sb=0∧x.m.ls=0∧x.m.nr=0∧x.m.fr=x.m.vw % n∧h.B x.m.vw∧Sg (h.W x.m.vw) x.m.ao x.m.ops∧h.I x.m.vw≤x.m.ao+x.m.ops.length∧Sure n h x.m.vw x.m.cm∧x.m.ao≤x.m.cm∧x.m.cm≤x.m.ao+x.m.ops.length∧Stab n h x.m.vw x.m.ao)
theorem MI.ext {n:Nat}{ok:O→Bool}{h h':Gh O}{vw vw':Nat→Nat}{x:Sd O}(f:MI n ok h vw x)(e:Ext n h h' vw)(hv: ∀k,k<n→vw k≤vw' k):MI n ok h' vw' x:=by
 refine⟨f.to,f.fr,f.ne,Nat.le_trans f.vv (hv _ f.fr),?_⟩
 rcases f.kd with⟨k,h1,h2,h3,h4,h5,h6,h7,h8,h9⟩|⟨k,h1,h2,h3,h4,h5,h6,h7⟩|h1|⟨k,h1,h2,h3,h4⟩|⟨k,h1,h2,h3,h4,h5,h6,h7,h8,h9,h10,h11⟩
 ·exact .inl ⟨k,h1,h2,h3,(e.b _ h4).1,h5.ext (e.w _ h4),e.sure h6,h7,e.stab h8,h9⟩
 ·exact .inr (.inl ⟨k,h1,h2,h3,h4,h5,(e.b _ h6).1,Nat.le_trans h7 (e.a _ _)⟩)
 ·exact .inr (.inr (.inl h1))
 ·exact .inr (.inr (.inr (.inl ⟨k,h1,h2,h3,h4.ext e f.fr (hv _ f.fr)⟩)))
 ·exact .inr (.inr (.inr (.inr ⟨k,h1,h2,h3,h4,(e.b _ h5).1,h6.ext (e.w _ h5),by rw[(e.b _ h5).2];exact h7,e.sure h8,h9,h10,e.stab h11⟩)))
def Wok (ok:O→Bool)(N:Nat)(h:Gh O):Prop:= ∀v,(h.W v).all ok=true∧(h.W v).length≤N
theorem Sg.all {L:List O}{a:Nat}{ops:List O}{ok:O→Bool}(h:Sg L a ops)(g:L.all ok=true):ops.all ok=true:=by
 rw[List.all_eq_true] at g⊢
 exact fun x hx=>g x (List.mem_of_mem_drop (h.2.subset hx))
theorem MI.may {n N:Nat}{ok:O→Bool}{h:Gh O}{vw:Nat→Nat}{x:Sd O}(f:MI n ok h vw x)(hw:Wok ok N h)(hN:N≤TM)(htm: ∀k,k<n→vw k≤TM)(hA: ∀k,k<n→ ∀v,h.A v k≤(h.W v).length){r:Rp O}(hn:r.n=n)(hi:r.id=x.to):mayM ok r x.m=true:=by
 have hv:x.m.vw≤TM:=Nat.le_trans f.vv (htm _ f.fr)
 unfold mayM bare
 simp only[Bool.and_eq_true,Bool.or_eq_true,decide_eq_true_eq,hn,hi]
 have hsg: ∀v,Sg (h.W v) x.m.ao x.m.ops→x.m.ops.all ok=true∧x.m.ao≤TM:=fun v g=>⟨g.all (hw v).1,by have:=g.1;have:=(hw v).2;omega⟩
 rcases f.kd with⟨k,h1,h2,h3,h4,h5,h6,h7,h8,h9⟩|⟨k,h1,h2,h3,h4,h5,h6,h7⟩|⟨k,h1,h2,h3,h4,h5,h6⟩|⟨k,h1,h2,h3,h4⟩|⟨k,h1,h2,h3,h4,h5,h6,h7,h8,h9,h10,h11⟩
 ·obtain⟨g1,g2⟩:=hsg _ h5
  refine⟨⟨⟨⟨⟨⟨⟨⟨⟨f.fr,f.ne⟩,hv⟩,g1⟩,g2⟩,h7⟩,.inl k⟩,.inr h1⟩,.inr h2⟩,?_⟩
  rw[if_pos k];simp only[Bool.and_eq_true,decide_eq_true_eq];exact⟨h3,h9⟩
 ·have:x.m.ls≤TM:=Nat.le_trans h7 (Nat.le_trans (hA _ f.fr _) (Nat.le_trans (hw _).2 hN))
  refine⟨⟨⟨⟨⟨⟨⟨⟨⟨f.fr,f.ne⟩,hv⟩,by rw[h2];rfl⟩,Z18⟩,Z18⟩,.inr h4⟩,.inl k⟩,.inr h5⟩,?_⟩
  rw[if_neg Z18,if_pos k];simp only[Bool.and_eq_true,decide_eq_true_eq];exact⟨⟨⟨h1,by rw[h2];rfl⟩,h3⟩,this⟩
 ·refine⟨⟨⟨⟨⟨⟨⟨⟨⟨f.fr,f.ne⟩,hv⟩,by rw[h2];rfl⟩,Z18⟩,Z18⟩,.inr h4⟩,.inr h6⟩,.inr h5⟩,?_⟩
  rw[if_neg Z18,if_neg Z18,if_neg Z18,if_neg Z18,if_pos k]
  simp only[Bool.and_eq_true,decide_eq_true_eq];exact⟨⟨h1,by rw[h2];rfl⟩,h3⟩
 ·obtain⟨g1,g2⟩:=hsg _ h4.sg
  refine⟨⟨⟨⟨⟨⟨⟨⟨⟨f.fr,f.ne⟩,hv⟩,g1⟩,g2⟩,h4.le.2⟩,.inr h1⟩,.inr h2⟩,.inl k⟩,?_⟩
  rw[if_neg Z18,if_neg Z18,if_pos k];simp only[Bool.and_eq_true,decide_eq_true_eq]
  exact⟨⟨h3,Nat.le_of_lt h4.nr⟩,h4.le.1⟩
 ·obtain⟨g1,g2⟩:=hsg _ h6
  refine⟨⟨⟨⟨⟨⟨⟨⟨⟨f.fr,f.ne⟩,hv⟩,g1⟩,g2⟩,h10⟩,.inr h1⟩,.inr h2⟩,.inr h3⟩,?_⟩
  rw[if_neg Z18,if_neg Z18,if_neg Z18,if_pos k];simp only[Bool.and_eq_true,decide_eq_true_eq]
  exact⟨h4,h9⟩
variable {O:Type}
structure RI (n:Nat)(ok:O→Bool)(h:Gh O)(vw:Nat→Nat)(i:Nat)(r:Rp O):Prop where
 id:r.id=i
 nn:r.n=n
 st:r.st≤2∧(r.st=1↔r.nr<r.vw)
 tm:r.vw≤TM
 sg:Sg (h.W r.nr) r.bs r.log
 ls:r.ls=r.bs+r.log.length
 od:r.bs≤r.td∧r.td≤r.cm∧r.cm≤r.ls∧r.sb≤r.cm
 cm:Sure n h r.nr r.cm
 sb:Stab n h r.nr r.sb
 bs:Stab n h r.nr r.bs
 of: ∀k o,r.offs k=some o→r.nr<r.vw∧r.vw % n=i∧k<n∧OF n h vw r.vw k o∧o.ao≤r.ls∧r.cm≤o.last
 hl:r.hv.length=n
 hv:r.st=0→r.vw % n=i→ ∀k,k<n→r.hv.getD k 0≤h.A r.vw k
 out: ∀x∈r.out,MI n ok h vw x
theorem RI.ext {n i:Nat}{ok:O→Bool}{h h':Gh O}{vw vw':Nat→Nat}{r:Rp O}(f:RI n ok h vw i r)(e:Ext n h h' vw)(hv: ∀k,k<n→vw k≤vw' k)(hb:h.B r.nr):RI n ok h' vw' i r:=
 ⟨f.id,f.nn,f.st,f.tm,f.sg.ext (e.w _ hb),f.ls,f.od,e.sure f.cm,e.stab f.sb,e.stab f.bs,fun k o ho=>by
  obtain⟨h1,h2,h3,h4,h5⟩:=f.of k o ho
  exact⟨h1,h2,h3,h4.ext e h3 (hv k h3),h5⟩,f.hl,fun h1 h2 k hk=>Nat.le_trans (f.hv h1 h2 k hk) (e.a _ _),fun x hx=>(f.out x hx).ext e hv⟩
structure LQ (n:Nat)(h:Gh O)(i v nr ls:Nat)(k:Kt O)(q:Rp O):Prop where
 id:q.id=i
 qn:q.n=n
 qv:q.vw=v
 qnr:q.nr=nr
 qls:q.ls=ls
 bs:q.bs=k.bs
 cm:q.cm=k.cm
 td:q.td=k.cm
 sg:Sg (h.W nr) q.bs q.log
 le:q.ls=q.bs+q.log.length
 od:q.bs≤q.cm∧q.cm≤q.ls∧q.sb≤q.ls
 scm:Sure n h nr q.cm
 ssb:Stab n h nr q.sb
 sbs:Stab n h nr q.bs
 hv:q.hv=List.replicate n 0
 offs: ∀k,q.offs k=none
 saves:q.saves= []
 out:q.out= []
structure LDR (n:Nat)(ok:O→Bool)(h:Gh O)(i v nr ls bs:Nat)(k:Kt O)(l:List (Sv O)):Prop where
 ex: ∃q0 q,ldK ok i n k=some q0∧ldL ok q0 l=some q∧LQ n h i v nr ls k q
 kb:k.bs≤bs
theorem LQ.ext {n i v nr ls:Nat}{h h':Gh O}{vw:Nat→Nat}{k:Kt O}{q:Rp O}(f:LQ n h i v nr ls k q)(e:Ext n h h' vw)(hb:h.B nr):LQ n h' i v nr ls k q:=
 ⟨f.id,f.qn,f.qv,f.qnr,f.qls,f.bs,f.cm,f.td,f.sg.ext (e.w _ hb),f.le,f.od,e.sure f.scm,e.stab f.ssb,e.stab f.sbs,f.hv,f.offs,f.saves,f.out⟩
theorem LDR.ext {n i v nr ls bs:Nat}{ok:O→Bool}{h h':Gh O}{vw:Nat→Nat}{k:Kt O}{l:List (Sv O)}(f:LDR n ok h i v nr ls bs k l)(e:Ext n h h' vw)(hb:h.B nr):LDR n ok h' i v nr ls bs k l:=by
 obtain⟨⟨q0,q,h1,h2,h3⟩,h4⟩:=f
 exact⟨⟨q0,q,h1,h2,h3.ext e hb⟩,h4⟩
theorem ldL_snoc (ok:O→Bool)(x:Sv O): ∀(l:List (Sv O)) (q:Rp O),ldL ok q (l++ [x])=(match ldL ok q l with
 |none=>none
 |some r=>ldS ok r x):=by
 intro l
 induction l with
 |nil=>
  intro q
  show ldL ok q [x]=ldS ok q x
  unfold ldL
  cases ldS ok q x<;>rfl
 |cons y l ih=>
  intro q
  show ldL ok q (y::(l++ [x]))=_
  unfold ldL
  cases hy:ldS ok q y with
  |none=>rfl
  |some r=>exact ih r
theorem LDR.turn {n i v nr ls bs v':Nat}{ok:O→Bool}{h:Gh O}{k:Kt O}{l:List (Sv O)}(f:LDR n ok h i v nr ls bs k l)(hv:v≤v')(ht:v'≤TM):LDR n ok h i v' nr ls bs k (l++ [⟨false,v',0,[],0⟩]):=by
 obtain⟨⟨q0,q,h1,h2,h3⟩,h4⟩:=f
 refine⟨⟨q0,{q with vw:=v'},h1,?_,⟨h3.id,h3.qn,rfl,h3.qnr,h3.qls,h3.bs,h3.cm,h3.td,h3.sg,h3.le,h3.od,h3.scm,h3.ssb,h3.sbs,h3.hv,h3.offs,h3.saves,h3.out⟩⟩,h4⟩
 rw[ldL_snoc,h2]
 show ldS ok q _=_
 unfold ldS
 rw[if_pos ⟨by rw[h3.qv];exact hv,ht,rfl⟩,if_pos rfl,if_pos ⟨rfl,rfl,rfl⟩]
theorem LDR.save {n i v nr ls bs v':Nat}{ok:O→Bool}{h h':Gh O}{vw:Nat→Nat}{k:Kt O}{l:List (Sv O)}(f:LDR n ok h i v nr ls bs k l)(e:Ext n h h' vw)(hb:h.B nr)(hv:v≤v')(hnv:nr≤v')(ht:v'≤TM)
 {at_ sb:Nat} {ops:List O} (hok:ops.all ok=true) (h1:bs≤at_) (h2:at_≤ls) (hsb:sb≤TM) (hss:Stab n h' v' sb) (hsg:Sg (h'.W v') at_ ops) (hag:(h'.W nr).take at_=(h'.W v').take at_) (hcm: ∀c,Sure n h' nr c→c≤ls→c≤at_+ops.length):
 LDR n ok h' i v' v' (at_+ops.length) bs k (l++ [⟨true,v',at_,ops,sb⟩]):=by
 obtain⟨⟨q0,q,g1,g2,g3⟩,g4⟩:=f
 have g3:=g3.ext e hb
 have hq1:q.bs≤at_:=by rw[g3.bs];omega
 have hm1:max at_ q.bs=at_:=Nat.max_eq_left hq1
 have hlay:=lay_sg (c:=at_) g3.sg hsg hq1 (Nat.le_refl _) (by rw[←g3.le,g3.qls];exact h2) Z18 hag
 have hc1:q.cm≤at_+ops.length:=hcm _ g3.scm (by have:=g3.od.2.1;rw[g3.qls] at this;exact this)
 have hc2:q.sb≤at_+ops.length:=by
  obtain⟨u,hu1,hu2⟩:=g3.ssb
  by_cases h0:n=0
  ·have:q.sb≤ls:=by rw[←g3.qls];exact g3.od.2.2
   refine hcm _ ⟨u,hu1,hu2.1,?_⟩ this
   exact Maj.all (by obtain⟨w,_,hw⟩:=g3.scm;exact hw.2.pos) fun k hk=>by simpa using hu2.2 k hk
  ·exact hcm _ ⟨u,hu1,hu2.cm Z18⟩ (by rw[←g3.qls];exact g3.od.2.2)
 refine⟨⟨q0,{lay {q with vw:=v',nr:=v'} at_ ops with sb:=max q.sb (min sb (q.bs+(layL q at_ ops).length))},g1,?_,?_⟩,g4⟩
 ·rw[ldL_snoc,g2]
  show ldS ok q _=_
  unfold ldS
  rw[if_pos ⟨by rw[g3.qv];exact hv,ht,hok⟩,if_neg Z97,if_pos ⟨hq1,by rw[g3.qls];exact h2,Nat.max_le.2 ⟨hc1,hc2⟩,hsb⟩]
  rfl
 ·have hll:layL q at_ ops=q.log.take (at_-q.bs)++ops.drop (at_-at_):=by unfold layL;rw[hm1]
  have hls:q.bs+(layL q at_ ops).length=at_+ops.length:=by rw[hll];exact hlay.2
  refine⟨g3.id,g3.qn,rfl,rfl,hls,g3.bs,g3.cm,g3.td,?_,rfl,⟨g3.od.1,?_,?_⟩,g3.scm.up hnv,?_,g3.sbs.up hnv,g3.hv,g3.offs,g3.saves,g3.out⟩
  ·show Sg _ q.bs (layL q at_ ops)
   rw[hll];exact hlay.1
  ·show q.cm≤q.bs+(layL q at_ ops).length
   rw[hls];exact hc1
  ·show max q.sb (min sb _)≤q.bs+(layL q at_ ops).length
   rw[hls]
   exact Nat.max_le.2 ⟨hc2,Nat.min_le_right _ _⟩
  ·exact(g3.ssb.up hnv).max (hss.le (Nat.min_le_left _ _))
structure Al (n:Nat)(ok:O→Bool)(N:Nat)(h:Gh O)(R:Nat→Rp O)(kp:Nat→Kt O)(sv:Nat→List (Sv O)):Prop where
 core:Core n h (fun k=>(R k).vw) (fun k=>(R k).nr) (fun k=>(R k).ls)
 rep: ∀i,i<n→RI n ok h (fun k=>(R k).vw) i (R i)
 ld: ∀i,i<n→LDR n ok h i (R i).vw (R i).nr (R i).ls (R i).bs (kp i) (sv i++(R i).saves)
 wok:Wok ok N h
theorem upd_f {α β:Type}(f:Nat→α)(g:α→β)(i:Nat)(a:α):(fun k=>g (upd f i a k))=upd (fun k=>g (f k)) i (g a):=by
 funext k
 unfold upd
 split<;>rfl
theorem upd_upd {α:Type}(f:Nat→α)(i:Nat)(a b:α):upd (upd f i a) i b=upd f i b:=by
 funext k
 unfold upd
 split<;>rfl
theorem upd_eta {α:Type}(f:Nat→α)(i:Nat):upd f i (f i)=f:=by
 funext k
 unfold upd
 split
 ·rename_i h;rw[h]
 ·rfl
def St (n:Nat)(ok:O→Bool)(N:Nat)(h:Gh O)(R:Nat→Rp O)(kp:Nat→Kt O)(sv:Nat→List (Sv O))(i:Nat)(r:Rp O):Prop:=
 ∃h',Ext n h h' (fun k=>(R k).vw)∧(R i).vw≤r.vw∧Al n ok N h' (upd R i r) kp sv
theorem upd_mono {n i:Nat}{R:Nat→Rp O}{r:Rp O}(hv:(R i).vw≤r.vw): ∀k,k<n→(fun k=>(R k).vw) k≤upd (fun k=>(R k).vw) i r.vw k:=fun k hk=>by
 exact Z85
theorem Al.put {n N N':Nat}{ok:O→Bool}{h h':Gh O}{R:Nat→Rp O}{kp:Nat→Kt O}{sv:Nat→List (Sv O)}(H:Al n ok N h R kp sv){i:Nat}(hi:i<n){r:Rp O}(e:Ext n h h' (fun k=>(R k).vw))(hv:(R i).vw≤r.vw)
 (hc:Core n h' (upd (fun k=>(R k).vw) i r.vw) (upd (fun k=>(R k).nr) i r.nr) (upd (fun k=>(R k).ls) i r.ls)) (hr:RI n ok h' (upd (fun k=>(R k).vw) i r.vw) i r) (hl:LDR n ok h' i r.vw r.nr r.ls r.bs (kp i) (sv i++r.saves)) (hw:Wok ok N' h'):
 St n ok N' h R kp sv i r:=by
 refine⟨h',e,hv,?_,fun j hj=> ?_,fun j hj=> ?_,hw⟩
 ·rw[upd_f R Rp.vw,upd_f R Rp.nr,upd_f R Rp.ls];exact hc
 ·rw[upd_f R Rp.vw]
  by_cases ej:j=i
  ·subst ej;rw[upd_same];exact hr
  ·rw[upd_ne _ _ ej];exact(H.rep j hj).ext e (upd_mono hv) (H.core.bn j hj)
 ·by_cases ej:j=i
  ·subst ej;rw[upd_same];exact hl
  ·rw[upd_ne _ _ ej];exact(H.ld j hj).ext e (H.core.bn j hj)
theorem St.trans {n N N':Nat}{ok:O→Bool}{h:Gh O}{R:Nat→Rp O}{kp:Nat→Kt O}{sv:Nat→List (Sv O)}{i:Nat}(hi:i<n){r r':Rp O}(s:St n ok N h R kp sv i r)
 (t: ∀h',Ext n h h' (fun k=>(R k).vw)→(R i).vw≤r.vw→Al n ok N h' (upd R i r) kp sv→St n ok N' h' (upd R i r) kp sv i r'):St n ok N' h R kp sv i r':=by
 obtain⟨h1,e1,v1,a1⟩:=s
 obtain⟨h2,e2,v2,a2⟩:=t h1 e1 v1 a1
 rw[upd_same] at v2
 rw[upd_upd] at a2
 refine⟨h2,e1.trans (vw1:=fun k=>(upd R i r k).vw) e2 fun k hk=> ?_,Nat.le_trans v1 v2,a2⟩
 by_cases e:k=i
 ·subst e;rw[upd_same];exact v1
 ·rw[upd_ne _ _ e];exact Nat.le_refl _
theorem St.refl {n N:Nat}{ok:O→Bool}{h:Gh O}{R:Nat→Rp O}{kp:Nat→Kt O}{sv:Nat→List (Sv O)}(H:Al n ok N h R kp sv)(i:Nat):St n ok N h R kp sv i (R i):=⟨h,Ext.refl _ _ _,Nat.le_refl _,by rw[upd_eta];exact H⟩
theorem Core.same {n:Nat}{h:Gh O}{vw nr ls:Nat→Nat}(H:Core n h vw nr ls){i v u l:Nat}(h1:v=vw i)(h2:u=nr i)(h3:l=ls i):Core n h (upd vw i v) (upd nr i u) (upd ls i l):=by
 rw[h1,h2,h3,upd_eta,upd_eta,upd_eta];exact H
theorem Al.same {n N:Nat}{ok:O→Bool}{h:Gh O}{R:Nat→Rp O}{kp:Nat→Kt O}{sv:Nat→List (Sv O)}(H:Al n ok N h R kp sv){i:Nat}(hi:i<n){r:Rp O}(h1:r.vw=(R i).vw)(h2:r.nr=(R i).nr)(h3:r.ls=(R i).ls)(h4:(R i).bs≤r.bs)(h5:r.saves=(R i).saves)
 (hr:RI n ok h (fun k=>(R k).vw) i r):St n ok N h R kp sv i r:=by
 refine H.put hi (Ext.refl _ _ _) (by rw[h1];exact Nat.le_refl _) (H.core.same h1 h2 h3) ?_ ?_ H.wok
 ·rw[show upd (fun k=>(R k).vw) i r.vw=fun k=>(R k).vw from by rw[h1];exact upd_eta (fun k=>(R k).vw) i];exact hr
 ·rw[h1,h2,h3,h5]
  obtain⟨g1,g2⟩:=H.ld i hi
  exact⟨g1,Nat.le_trans g2 h4⟩
end Go.Proofs.YtdmjegelcdghlaaGreat.Vw
namespace Go.Proofs.YtdmjegelcdghlaaGreat
theorem Z153 {p:Prop}(h:p:=by show¬(1:Nat)=0;omega):p:=h
end Go.Proofs.YtdmjegelcdghlaaGreat
namespace Go.Proofs.YtdmjegelcdghlaaGreat.Vw
variable {O:Type}
def msTo (f:Rp O→Nat→Ms O)(r:Rp O)(ks:List Nat):List (Sd O):=(ks.filter fun k=>decide (k≠r.id)).map fun k=>⟨k,{f r k with fr:=r.id,vw:=r.vw}⟩
theorem foldl_snd (f:Rp O→Nat→Ms O)(hf: ∀(q:Rp O) o k,f {q with out:=o} k=f q k): ∀(ks:List Nat) (r:Rp O),ks.foldl (fun q k=>snd1 (f q k) q k) r= {r with out:=r.out++msTo f r ks}:=by
 intro ks
 induction ks with
 |nil=>intro r;simp[msTo]
 |cons k ks ih=>
  intro r
  rw[List.foldl_cons]
  by_cases e:k=r.id
  ·have h1:snd1 (f r k) r k=r:=by unfold snd1;rw[if_pos e]
   have h2:msTo f r (k::ks)=msTo f r ks:=by
    unfold msTo
    rw[List.filter_cons_of_neg (by simp[e])]
   rw[h1,ih,h2]
  ·have h1:snd1 (f r k) r k= {r with out:=r.out++ [⟨k,{f r k with fr:=r.id,vw:=r.vw}⟩] }:=by unfold snd1;rw[if_neg e]
   have h2:msTo f r (k::ks)=⟨k,{f r k with fr:=r.id,vw:=r.vw}⟩::msTo f r ks:=by
    unfold msTo
    rw[List.filter_cons_of_pos (by simp[e])]
    rfl
   have h3: ∀o,msTo f {r with out:=o} ks=msTo f r ks:=fun o=>by
    unfold msTo
    refine List.map_congr_left fun x _=> ?_
    rw[hf]
   rw[h1,ih,h2,h3]
   simp[List.append_assoc]
theorem sndL_eq (m:Ms O)(r:Rp O)(ks:List Nat):sndL m r ks= {r with out:=r.out++msTo (fun _ _=>m) r ks}:=foldl_snd (fun _ _=>m) (fun _ _ _=>rfl) ks r
theorem snd1_eq (m:Ms O)(r:Rp O)(k:Nat):snd1 m r k= {r with out:=r.out++msTo (fun _ _=>m) r [k] }:=foldl_snd (fun _ _=>m) (fun _ _ _=>rfl) [k] r
theorem tell_eq (r:Rp O):tell r= {r with out:=r.out++msTo mPrep r (List.range r.n)}:=foldl_snd mPrep (fun _ _ _=>rfl) _ r
theorem start_eq (r:Rp O)(ks:List Nat):start r ks= {r with out:=r.out++msTo (fun _ _=>mBegin r) r ks}:=sndL_eq _ _ _
variable {n N:Nat} {ok:O→Bool} {h:Gh O} {R:Nat→Rp O} {kp:Nat→Kt O} {sv:Nat→List (Sv O)} {i:Nat}
theorem Al.p_send (H:Al n ok N h R kp sv)(hi:i<n)(f:Rp O→Nat→Ms O)(ks:List Nat)(hm: ∀k,k∈ks→k<n∧(k≠i→MI n ok h (fun k=>(R k).vw) ⟨k,{f (R i) k with fr:=i,vw:=(R i).vw}⟩)):
 St n ok N h R kp sv i {R i with out:=(R i).out++msTo f (R i) ks}:=by
 have g:=H.rep i hi
 refine H.same hi rfl rfl rfl (Nat.le_refl _) rfl ⟨g.id,g.nn,g.st,g.tm,g.sg,g.ls,g.od,g.cm,g.sb,g.bs,g.of,g.hl,g.hv,fun x hx=> ?_⟩
 rcases List.mem_append.1 hx with hx|hx
 ·exact g.out x hx
 ·obtain⟨k,hk,rfl⟩:=List.mem_map.1 hx
  rw[List.mem_filter] at hk
  have h1:=hk.2
  rw[g.id] at h1⊢
  exact(hm k hk.1).2 (by simpa using h1)
theorem Al.m_kd (H:Al n ok N h R kp sv)(hi:i<n)(kd:Nat)(hk:kd=3∨kd=6){k:Nat}(hkn:k<n)(hki:k≠i):MI n ok h (fun k=>(R k).vw) ⟨k,{ (mKd kd:Ms O) with fr:=i,vw:=(R i).vw}⟩:=
 ⟨hkn,hi,fun e=>hki e.symm,Nat.le_refl _,.inr (.inr (.inl ⟨hk,rfl,rfl,rfl,rfl,rfl,rfl⟩))⟩
theorem Al.m_have (H:Al n ok N h R kp sv)(hi:i<n)(hv:(R i).nr=(R i).vw){k:Nat}(hkn:k<n)(hki:k≠i):MI n ok h (fun k=>(R k).vw) ⟨k,{mHave (R i) with fr:=i,vw:=(R i).vw}⟩:=
 ⟨hkn,hi,fun e=>hki e.symm,Nat.le_refl _,.inr (.inl ⟨rfl,rfl,rfl,rfl,rfl,rfl,by show h.B (R i).vw;rw[←hv];exact H.core.bn i hi,by
  show(R i).ls≤h.A (R i).vw i
  rw[←hv]
  exact Nat.le_of_eq (H.core.al i hi).symm⟩)⟩
theorem Al.of_own (H:Al n ok N h R kp sv)(hi:i<n){vw:Nat→Nat}{v:Nat}(hv:v≤vw i)(hn:(R i).nr<v):OF n h vw v i ⟨(R i).nr,(R i).bs,(R i).cm,(R i).log⟩:=by
 have g:=H.rep i hi
 refine⟨hv,hn,H.core.bn i hi,g.sg,?_,g.cm,⟨Nat.le_trans g.od.1 g.od.2.1,?_⟩,g.bs,fun w hw h0=> ?_⟩
 ·show _≤(R i).bs+(R i).log.length
  rw[←g.ls];exact(H.core.li i hi).1
 ·show _≤(R i).bs+(R i).log.length
  rw[←g.ls];exact g.od.2.2.1
 ·have h1:w≤(R i).nr:=Nat.not_lt.1 fun h2=>by have:=H.core.ah i hi w h2;omega
  refine⟨h1,fun e=> ?_⟩
  show _≤(R i).bs+(R i).log.length
  rw[←g.ls,e]
  exact Nat.le_of_eq (H.core.al i hi)
theorem Al.m_offer (H:Al n ok N h R kp sv)(hi:i<n)(hv:(R i).nr<(R i).vw)(hki:prm (R i)≠i):MI n ok h (fun k=>(R k).vw) ⟨prm (R i),{mOffer (R i) with fr:=i,vw:=(R i).vw}⟩:=by
 have g:=H.rep i hi
 have hn:prm (R i)=(R i).vw % n:=by unfold prm;rw[g.nn]
 refine⟨by rw[hn];exact Nat.mod_lt _ Z18,hi,fun e=>hki e.symm,Nat.le_refl _,.inr (.inr (.inr (.inl ⟨rfl,rfl,rfl,hn,?_⟩)))⟩
 exact H.of_own hi (Nat.le_refl _) hv
theorem Al.leads_nr (H:Al n ok N h R kp sv)(hi:i<n)(hl:leads (R i)=true):(R i).st=0∧(R i).vw % n=i∧(R i).nr=(R i).vw∧(R i).ls=(h.W (R i).vw).length:=by
 have g:=H.rep i hi
 unfold leads prm at hl
 simp only[Bool.and_eq_true,decide_eq_true_eq] at hl
 rw[g.nn,g.id] at hl
 have h1:(R i).nr=(R i).vw:=by
  have:=H.core.le i hi
  have h2:=g.st.2
  have h3:(R i).nr≤(R i).vw:=this
  omega
 refine⟨hl.1,hl.2,h1,?_⟩
 have:=H.core.pl i hi (by show(R i).nr % n=i;rw[h1];exact hl.2)
 rw[←h1];exact this
theorem Al.m_begin (H:Al n ok N h R kp sv)(hi:i<n)(hl:leads (R i)=true){k:Nat}(hkn:k<n)(hki:k≠i):MI n ok h (fun k=>(R k).vw) ⟨k,{mBegin (R i) with fr:=i,vw:=(R i).vw}⟩:=by
 have g:=H.rep i hi
 obtain⟨h0,h1,h2,h3⟩:=H.leads_nr hi hl
 have hls:(R i).bs+(R i).log.length=(R i).ls:=g.ls.symm
 refine⟨hkn,hi,fun e=>hki e.symm,Nat.le_refl _,.inr (.inr (.inr (.inr ⟨rfl,rfl,rfl,rfl,h1.symm,?_,?_,?_,?_,Nat.le_trans g.od.1 g.od.2.1,?_,?_⟩)))⟩
 ·show h.B (R i).vw
  rw[←h2];exact H.core.bn i hi
 ·show Sg (h.W (R i).vw) (R i).bs (R i).log
  rw[←h2];exact g.sg
 ·show h.I (R i).vw≤(R i).bs+(R i).log.length
  rw[hls,←h2];exact(H.core.li i hi).1
 ·show Sure n h (R i).vw (R i).cm
  rw[←h2];exact g.cm
 ·show(R i).cm≤(R i).bs+(R i).log.length
  rw[hls];exact g.od.2.2.1
 ·show Stab n h (R i).vw (R i).bs
  rw[←h2];exact g.bs
theorem Al.hb (H:Al n ok N h R kp sv)(hi:i<n)(hl:leads (R i)=true): ∀k,k<n→(R i).hv.getD k 0≤(R i).ls:=by
 obtain⟨h0,h1,h2,h3⟩:=H.leads_nr hi hl
 intro k hk
 rw[h3]
 exact Nat.le_trans ((H.rep i hi).hv h0 h1 k hk) (H.core.aw k hk _)
theorem Al.m_prep (H:Al n ok N h R kp sv)(hi:i<n)(hl:leads (R i)=true){k:Nat}(hkn:k<n)(hki:k≠i):MI n ok h (fun k=>(R k).vw) ⟨k,{mPrep (R i) k with fr:=i,vw:=(R i).vw}⟩:=by
 have g:=H.rep i hi
 obtain⟨h0,h1,h2,h3⟩:=H.leads_nr hi hl
 have hb:=H.hb hi hl k hkn
 have hls:(R i).bs+(R i).log.length=(R i).ls:=g.ls.symm
 obtain⟨a,ha⟩: ∃a,a=max (R i).bs ((R i).hv.getD k 0):=⟨_,rfl⟩
 have ha1:(R i).bs≤a∧a≤(R i).ls:=by rw[ha];exact⟨Nat.le_max_left _ _,Nat.max_le.2 ⟨Z18,hb⟩⟩
 have hlen:((R i).log.drop (a-(R i).bs)).length=(R i).ls-a:=by rw[List.length_drop];omega
 refine⟨hkn,hi,fun e=>hki e.symm,Nat.le_refl _,.inl ⟨rfl,rfl,rfl,h1.symm,?_,?_,?_,?_,?_,g.od.2.2.2⟩⟩
 ·show h.B (R i).vw
  rw[←h2];exact H.core.bn i hi
 ·show Sg (h.W (R i).vw) (max (R i).bs ((R i).hv.getD k 0)) ((R i).log.drop (max (R i).bs ((R i).hv.getD k 0)-(R i).bs))
  rw[←ha,←h2]
  have h4:=g.sg.drop (a-(R i).bs) Z18
  rw[show(R i).bs+(a-(R i).bs)=a by omega] at h4
  exact h4
 ·show Sure n h (R i).vw (R i).cm
  rw[←h2];exact g.cm
 ·show(R i).cm≤max (R i).bs ((R i).hv.getD k 0)+((R i).log.drop (max (R i).bs ((R i).hv.getD k 0)-(R i).bs)).length
  rw[←ha,hlen]
  have:=g.od.2.2.1
  omega
 ·show Stab n h (R i).vw (R i).sb
  rw[←h2];exact g.sb
theorem Al.p_turn (H:Al n ok N h R kp sv)(hi:i<n){v:Nat}(hv:(R i).vw<v)(ht:v≤TM):St n ok N h R kp sv i (turn (R i) v):=by
 have g:=H.rep i hi
 have hnr:(R i).nr<v:=Nat.lt_of_le_of_lt (H.core.le i hi) hv
 have hmono:=upd_mono (n:=n) (R:=R) (i:=i) (r:=turn (R i) v) (Nat.le_of_lt hv)
 refine H.put hi (Ext.refl _ _ _) (Nat.le_of_lt hv) ?_ ?_ ?_ H.wok
 ·have h1:=H.core.rise hi (v:=v) (Nat.le_of_lt hv)
  have h2:upd (fun k=>(R k).nr) i (R i).nr=fun k=>(R k).nr:=upd_eta (fun k=>(R k).nr) i
  have h3:upd (fun k=>(R k).ls) i (R i).ls=fun k=>(R k).ls:=upd_eta (fun k=>(R k).ls) i
  show Core n h (upd _ i v) (upd _ i (R i).nr) (upd _ i (R i).ls)
  rw[h2,h3];exact h1
 ·refine⟨g.id,g.nn,⟨by show 1≤2;omega,⟨fun _=>hnr,fun _=>rfl⟩⟩,ht,g.sg,g.ls,g.od,g.cm,g.sb,g.bs,fun k o ho=> ?_,g.hl,fun h0=>absurd h0 Z153,fun x hx=> ?_⟩
  ·have ho':(if v %(R i).n=(R i).id then upd (fun _=>none) (R i).id (some ⟨(R i).nr,(R i).bs,(R i).cm,(R i).log⟩) else fun _=>none) k=some o:=ho
   split at ho'
   ·rename_i hp
    by_cases ek:k=(R i).id
    ·subst ek
     rw[upd_same] at ho'
     cases ho'
     rw[g.nn,g.id] at hp
     rw[g.id]
     refine⟨hnr,hp,hi,H.of_own hi (by rw[upd_same];exact Nat.le_refl _) hnr,?_,?_⟩
     ·exact Nat.le_trans g.od.1 (Nat.le_trans g.od.2.1 g.od.2.2.1)
     ·show(R i).cm≤(R i).bs+(R i).log.length
      rw[←g.ls];exact g.od.2.2.1
    ·rw[upd_ne _ _ ek] at ho'
     cases ho'
   ·cases ho'
  ·exact(g.out x hx).ext (Ext.refl _ _ _) hmono
 ·have h1:=(H.ld i hi).turn (Nat.le_of_lt hv) ht
  rw[List.append_assoc] at h1
  exact h1
theorem most_has (l:List Nat)(n many:Nat): ∀b,0<most l n many b→many≤hasN l (most l n many b) n:=by
 intro b
 induction b with
 |zero=>intro h0;exact absurd h0 (by unfold most;omega)
 |succ b ih=>
  intro h0
  unfold most at h0⊢
  split
  ·assumption
  ·rename_i hn
   rw[if_neg hn] at h0
   exact ih h0
theorem most_le' (l:List Nat)(n many:Nat): ∀b,most l n many b≤b:=by
 intro b
 induction b with
 |zero=>unfold most;omega
 |succ b ih=>unfold most;split<;>omega
theorem Al.p_count (H:Al n ok N h R kp sv)(hi:i<n)(hl:leads (R i)=true):St n ok N h R kp sv i (count (R i)):=by
 have g:=H.rep i hi
 obtain⟨h0,h1,h2,h3⟩:=H.leads_nr hi hl
 have hA:h.A (R i).vw i=(R i).ls:=by rw[←h2];exact H.core.al i hi
 have hB:h.B (R i).vw:=by rw[←h2];exact H.core.bn i hi
 have hhv: ∀k,k<n→((R i).hv.set (R i).id (R i).ls).getD k 0≤h.A (R i).vw k:=fun k hk=>by
  rw[List.getD_eq_getElem?_getD,List.getElem?_set,g.id]
  by_cases e:i=k
  ·subst e
   rw[if_pos rfl,if_pos (by rw[g.hl];exact hi),hA]
   exact Nat.le_refl _
  ·rw[if_neg e,←List.getD_eq_getElem?_getD]
   exact g.hv h0 h1 k hk
 have hsure: ∀b,Sure n h (R i).vw (rch ((R i).hv.set (R i).id (R i).ls) n b):=fun b=>by
  unfold rch
  rcases Nat.eq_zero_or_pos (most ((R i).hv.set (R i).id (R i).ls) n (n/2+1) b) with e|e
  ·rw[e];exact H.core.sure0 _
  ·refine⟨_,Nat.le_refl _,hB,?_⟩
   refine Nat.le_trans (most_has _ _ _ _ e) (List.countP_mono_left fun k hk hk2=> ?_)
   simp only[decide_eq_true_eq] at hk2⊢
   exact Nat.le_trans hk2 (hhv k (List.mem_range.1 hk))
 have hstab: ∀b,Stab n h (R i).vw (stb ((R i).hv.set (R i).id (R i).ls) n b):=fun b=>by
  unfold stb
  rcases Nat.eq_zero_or_pos (most ((R i).hv.set (R i).id (R i).ls) n n b) with e|e
  ·rw[e];exact H.core.stab0 _
  ·refine⟨_,Nat.le_refl _,hB,fun k hk=> ?_⟩
   have h4:=most_has _ _ _ _ e
   unfold hasN at h4
   have h5:=List.countP_le_length (p:=fun k=>decide (most ((R i).hv.set (R i).id (R i).ls) n n b≤((R i).hv.set (R i).id (R i).ls).getD k 0)) (l:=List.range n)
   rw[List.length_range] at h5
   have h6:=List.countP_eq_length.1 (show _=(List.range n).length from by rw[List.length_range];exact Nat.le_antisymm h5 h4) k (List.mem_range.2 hk)
   simp only[decide_eq_true_eq] at h6
   exact Nat.le_trans h6 (hhv k hk)
 have hn:(R i).n=n:=g.nn
 have hcm:Sure n h (R i).nr (max (R i).cm (rch ((R i).hv.set (R i).id (R i).ls) (R i).n (R i).ls)):=by
  rw[hn,h2]
  exact(h2▸g.cm).max (hsure _)
 have hle:rch ((R i).hv.set (R i).id (R i).ls) (R i).n (R i).ls≤(R i).ls:=most_le' _ _ _ _
 refine H.same hi rfl rfl rfl (Nat.le_refl _) rfl ⟨g.id,g.nn,g.st,g.tm,g.sg,g.ls,⟨g.od.1,?_,?_,?_⟩,hcm,?_,g.bs,fun k o ho=> ?_,?_,fun _ _ k hk=>hhv k hk,g.out⟩
 ·exact Nat.le_trans g.od.2.1 (Nat.le_max_left _ _)
 ·exact Nat.max_le.2 ⟨g.od.2.2.1,hle⟩
 ·exact Nat.max_le.2 ⟨Nat.le_trans g.od.2.2.2 (Nat.le_max_left _ _),Nat.min_le_right _ _⟩
 ·show Stab n h (R i).nr (max (R i).sb (min (stb ((R i).hv.set (R i).id (R i).ls) (R i).n (R i).ls) _))
  rw[hn,h2]
  exact(h2▸g.sb).max ((hstab _).le (Nat.min_le_left _ _))
 ·obtain⟨k1,k2,k3,k4,k5,k6⟩:=g.of k o ho
  exact absurd k1 Z18
 ·show((R i).hv.set _ _).length=n
  rw[List.length_set];exact g.hl
variable {O:Type}
def kR1 (o:O):Rp O:=⟨0,1,0,0,0,0,0,1,1,1,[o],0,[1],fun _=>none,[⟨true,0,0,[o],0⟩],[]⟩
theorem kR1_eq (o:O):ask (newR 0 1) o=kR1 o:=by kernel_rfl
def kM1 (o:O):Ms O:=⟨1,0,0,0,0,[o],0,0,0⟩
def kA1 (o:O):Rp O:=⟨0,3,0,0,0,0,0,0,0,1,[o],0,[1,0,0],fun _=>none,[⟨true,0,0,[o],0⟩],[⟨1,kM1 o⟩,⟨2,kM1 o⟩]⟩
theorem kA1_eq (o:O):ask (newR 0 3) o=kA1 o:=by kernel_rfl
def kM2 (o:O):Ms O:=⟨2,1,0,0,0,[],0,0,1⟩
def kB1 (o:O):Rp O:=⟨1,3,0,0,0,0,0,0,0,1,[o],0,[0,0,0],fun _=>none,[⟨true,0,0,[o],0⟩],[⟨0,kM2 o⟩]⟩
theorem kB1_eq (o:O):take (newR 1 3) (kM1 o)=kB1 o:=rfl
def kA2 (o:O):Rp O:=⟨0,3,0,0,0,0,0,1,0,1,[o],0,[1,1,0],fun _=>none,[⟨true,0,0,[o],0⟩],[]⟩
theorem kA2_eq (o:O):take {kA1 o with out:= [] } (kM2 o)=kA2 o:=by kernel_rfl
theorem kReady (o:O):ready (kR1 o)= [o]:=rfl
theorem kAsk1 (ok:O→Bool)(o:O)(h:ok o=true):askE ok (newR 0 1) o=0:=by
 unfold askE;rw[h];rfl
theorem kAsk3 (ok:O→Bool)(o:O)(h:ok o=true):askE ok (newR 0 3) o=0:=by
 unfold askE;rw[h];rfl
theorem kMay1 (ok:O→Bool)(o:O)(h:ok o=true):mayM ok (newR 1 3) (kM1 o)=true:=by
 unfold mayM kM1
 simp[h,newR,TM]
theorem kMay2 (ok:O→Bool)(o:O):mayM ok {kA1 o with out:= [] } (kM2 o)=true:=by
 unfold mayM kM2
 simp[kA1,TM,bare]
end Go.Proofs.YtdmjegelcdghlaaGreat.Vw
