/-
  Chapter 22: the group in memory: what stays, what is put in place.
-/
import Derived.Test.YtdmjegelcdghlaaGreatGKo
import Derived.Test.YtdmjegelcdghlaaGreatGIr
set_option maxRecDepth 100000
set_option maxHeartbeats 64000000
set_option linter.unusedVariables false
set_option linter.unusedSimpArgs false
namespace Go.Proofs.YtdmjegelcdghlaaGreat
theorem Z107 {p:Prop}(h:p:=by
 rcases hl with hl|hl
 ·exact absurd hl (fun e=>e)
 ·rw[hl];exact h1):p:=h
theorem Z55 {p:Prop}(h:p:=by have:k<g.n:=hk;omega):p:=h
end Go.Proofs.YtdmjegelcdghlaaGreat
namespace Go.Proofs.YtdmjegelcdghlaaGreat.Vw
open Go.RowKit Go.Maps
theorem Row.at {α:Type}{E:Ek α}(hE:E.Ok){c:Lb}{lo:Nat}{W:World}{v:Value}{l:List α}(h:Row E c lo W v l){i:Nat}{a:α}(ha:l[i]?=some a):
 ∃g cap u,v= .slice (some ⟨g,0,none⟩) l.length cap∧g<W.heap.size∧c g=lo∧E.inn c W u a∧(∀(j:Nat) x,(E.cel a u)[j]?=some x→W.cell? ⟨g,i*E.sz+j,none⟩=some x)∧ ∀j,W.frozen? ⟨g,j,none⟩=false:=by
 have h0:0<l.length:=by have:=(List.getElem?_eq_some_iff.1 ha).1;omega
 obtain⟨g,cap,e,hg,hc⟩:=h.form h0
 obtain⟨b,off,cap2,u,e2,h3,h4⟩:=h.sl.get hE ha
 subst e
 cases e2
 obtain⟨⟨vs,h5,h6⟩,_⟩:=h
 exact⟨_,_,u,rfl,hg,hc,h3,fun j x hx=>by have:=h4 j x hx;rw[Nat.zero_add] at this;exact this,fun j=>h6.frozenAt j⟩
theorem Row.set1 {α:Type}{E:Ek α}{f:α→Value}(h1:E.sz=1)(hc: ∀a u,E.cel a u= [f a])(hin: ∀c W u a,E.inn c W u a){c:Lb}{lo:Nat}{W:World}{g cap:Nat}{l:List α}(h:Row E c lo W (.slice (some ⟨g,0,none⟩) l.length cap) l){j:Nat}(hj:j<l.length)(a:α):Row E c lo (W.setCell ⟨g,j,none⟩ (f a)) (.slice (some ⟨g,0,none⟩) l.length cap) (l.set j a):=by
 obtain⟨⟨vs,h2,h3⟩,h4⟩:=h
 have hfl: ∀(l:List α) (vs:List Value),vs.length=l.length→flat E l vs=l.map f:=by
  intro l
  induction l with
  |nil=>intro vs _;simp[flat]
  |cons a l ih=>
   intro vs hv
   cases vs with
   |nil=>simp at hv
   |cons u vs=>
    have:=ih vs (by simpa using hv)
    unfold flat at this⊢
    rw[List.zipWith_cons_cons,List.flatten_cons,this,hc];rfl
 have h5:=(h3.stored j (f a)).1
 have e:(flat E l vs).set j (f a)=flat E (l.set j a) vs:=by
  rw[hfl l vs h2.1,hfl (l.set j a) vs (by simpa using h2.1),List.map_set]
 rw[e] at h5
 refine⟨⟨vs,⟨by simpa using h2.1,fun _ _ _ _ _=>hin _ _ _ _⟩,?_⟩,h4⟩
 rw[List.length_set];exact h5
theorem map_upd {α:Type}(f:Nat→α)(n i:Nat)(a:α):(List.range n).map (upd f i a)=((List.range n).map f).set i a:=by
 apply List.ext_getElem?
 intro k
 rw[List.getElem?_set,List.getElem?_map,List.getElem?_map,List.length_map,List.length_range]
 by_cases e:i=k
 ·subst e
  rw[if_pos rfl]
  by_cases hk:i<n
  ·rw[if_pos hk,List.getElem?_range hk]
   simp[upd]
  ·rw[if_neg hk,List.getElem?_eq_none (by simpa using hk)];rfl
 ·rw[if_neg e]
  by_cases hk:k<n
  ·rw[List.getElem?_range hk]
   simp[upd,Ne.symm e]
  ·rw[List.getElem?_eq_none (by simpa using hk)];rfl
theorem range_at {α:Type}(f:Nat→α){n i:Nat}(hi:i<n):((List.range n).map f)[i]?=some (f i):=by
 rw[List.getElem?_map,List.getElem?_range hi];rfl
theorem range_len {α:Type}(f:Nat→α)(n:Nat):((List.range n).map f).length=n:=by rw[List.length_map,List.length_range]
structure GPk (F:Nat→Prop)(c:Lb)(W:World)(ps:Nat→Nat)(g:Gp Op)(rv kv sv wv tv ov:Value)(ss:Nat→Sl3):Prop where
 r: ¬F 201→Row ptE c 201 W rv ((List.range g.n).map ps)
 k: ¬F 202→ ¬F 1→Row (ktE 1) c 202 W kv ((List.range g.n).map g.kept)
 s: ¬F 203→Row slE c 203 W sv ((List.range g.n).map ss)
 w: ¬F 204→ ¬F 3→Row (sdE 3) c 204 W wv g.way
 t: ¬F 205→Row ntE c 205 W tv ((List.range g.n).map g.told)
 o: ¬F 206→ ¬F 1→Row (opE 1) c 206 W ov g.order
 sv: ∀i,i<g.n→ ¬F (210+i)→ ¬F 2→Row (svE 2) c (210+i) W (ss i).v (g.saves i)
 rp: ∀i,i<g.n→(∀l,(1≤l∧l≤3)∨(10+10*i≤l∧l≤15+10*i)→ ¬F l)→RV i c W (ps i) (g.r i)
theorem GP.keepF {c c':Lb}{W W':World}{ps:Nat→Nat}{g:Gp Op}{rv kv sv wv tv ov:Value}{ss:Nat→Sl3}(h:GP c W ps g rv kv sv wv tv ov ss)(F:Nat→Prop)(hc:Lx W c c')(hf: ∀k,k<W.heap.size→ ¬F (c k)→W'.heap[k]?=W.heap[k]?):GPk F c' W' ps g rv kv sv wv tv ov ss:=by
 refine⟨fun h1=>h.r.keep ptE_ok hc fun k hk hl=>hf k hk ?_,fun h1 h2=>h.k.keep (ktE_ok 1) hc fun k hk hl=>hf k hk ?_,fun h1=>h.s.keep slE_ok hc fun k hk hl=>hf k hk ?_,fun h1 h2=>h.w.keep (sdE_ok 3) hc fun k hk hl=>hf k hk ?_,fun h1=>h.t.keep ntE_ok hc fun k hk hl=>hf k hk ?_,fun h1 h2=>h.o.keep (opE_ok 1) hc fun k hk hl=>hf k hk ?_,fun i hi h1 h2=>(h.sv i hi).keep (svE_ok 2) hc fun k hk hl=>hf k hk ?_,fun i hi h1=>(h.rp i hi).keep hc fun k hk hl=>hf k hk (h1 _ hl)⟩
 ·exact Z107
 ·rcases hl with hl|hl
  ·rw[show c k=1 from hl];exact h2
  ·rw[hl];exact h1
 ·exact Z107
 ·rcases hl with hl|hl
  ·rw[show c k=3 from hl];exact h2
  ·rw[hl];exact h1
 ·exact Z107
 ·rcases hl with hl|hl
  ·rw[show c k=1 from hl];exact h2
  ·rw[hl];exact h1
 ·rcases hl with hl|hl
  ·rw[show c k=2 from hl];exact h2
  ·rw[hl];exact h1
def Fg:Nat→Prop:=fun l=>(10≤l∧l<90)∨(200≤l∧l<220)
theorem Fg_Fi {i:Nat}(hi:i<7): ∀l,Fi i l→Fg l:=fun l hl=>by
 have h1:10+10*i≤l∧l≤15+10*i:=hl
 unfold Fg;omega
def Mg (c:Lb)(w w':World)(gp:Nat)(g':Gp Op):Prop:= ∃c',Lx w c c'∧Fr Fg c w w'∧GV c' w' gp g'
theorem Mg.trans {c c1:Lb}{w w1 w2:World}{gp:Nat}{g2:Gp Op}(hx:Lx w c c1)(hf:Fr Fg c w w1)(h:Mg c1 w1 w2 gp g2):Mg c w w2 gp g2:=by
 obtain⟨c',h1,h2,h3⟩:=h
 exact⟨c',hx.trans h1 hf.size,hf.trans hx h2,h3⟩
theorem GV.lt {c:Lb}{W:World}{gp:Nat}{g:Gp Op}(h:GV c W gp g):gp<W.heap.size:=by
 obtain⟨_,_,_,_,_,_,_,_,h1,_⟩:=h.ex
 exact h1.lt
theorem GV.below {c:Lb}{W W':World}{gp:Nat}{g:Gp Op}(h:GV c W gp g)(hn:g.n≤7)(hb:Below W.heap.size W W'):GV c W' gp g:=h.keep hn (Lx.refl _ _) fun k hk _=>hb.block k hk
theorem GV.drewN {c:Lb}{W:World}{gp:Nat}{g:Gp Op}(h:GV c W gp g)(hn:g.n≤7)(m:Nat):GV c (W.drewN m) gp g:=h.below hn (below_drewN (Below.refl _ _) m)
theorem GV.opn {c:Lb}{W:World}{gp:Nat}{g:Gp Op}(h:GV c W gp g)(hn:1≤g.n): ∃ps br cr bk ck bs cs wv bt ct ov ss,Blk W gp 69 [.slice (some ⟨br,0,none⟩) g.n cr,.slice (some ⟨bk,0,none⟩) g.n ck,.slice (some ⟨bs,0,none⟩) g.n cs,wv,.slice (some ⟨bt,0,none⟩) g.n ct,ov]∧
 GP c W ps g (.slice (some ⟨br,0,none⟩) g.n cr) (.slice (some ⟨bk,0,none⟩) g.n ck) (.slice (some ⟨bs,0,none⟩) g.n cs) wv (.slice (some ⟨bt,0,none⟩) g.n ct) ov ss∧(c gp=200∧c br=201∧c bk=202∧c bs=203∧c bt=205)∧br<W.heap.size∧bk<W.heap.size∧bs<W.heap.size∧bt<W.heap.size:=by
 obtain⟨h0,ps,rv,kv,sv,wv,tv,ov,ss,h1,h2⟩:=h
 obtain⟨br,cr,e1,l1,q1⟩:=h2.r.form (by rw[range_len];exact hn)
 obtain⟨bk,ck,e2,l2,q2⟩:=h2.k.form (by rw[range_len];exact hn)
 obtain⟨bs,cs,e3,l3,q3⟩:=h2.s.form (by rw[range_len];exact hn)
 obtain⟨bt,ct,e4,l4,q4⟩:=h2.t.form (by rw[range_len];exact hn)
 rw[range_len] at e1 e2 e3 e4
 subst e1 e2 e3 e4
 exact⟨ps,br,cr,bk,ck,bs,cs,wv,bt,ct,ov,ss,h1,h2,⟨h0,q1,q2,q3,q4⟩,l1,l2,l3,l4⟩
theorem GP.cells {c:Lb}{W:World}{ps:Nat→Nat}{g:Gp Op}{br cr bs cs bt ct:Nat}{kv wv ov:Value}{ss:Nat→Sl3}(h:GP c W ps g (.slice (some ⟨br,0,none⟩) g.n cr) kv (.slice (some ⟨bs,0,none⟩) g.n cs) wv (.slice (some ⟨bt,0,none⟩) g.n ct) ov ss){i:Nat}(hi:i<g.n):
 W.cell? ⟨br,i,none⟩=some (.pointer (some ⟨ps i,0,none⟩))∧W.cell? ⟨bs,i,none⟩=some (ss i).v∧W.cell? ⟨bt,i,none⟩=some (.int .i64 (g.told i:Int))∧W.frozen? ⟨br,i,none⟩=false∧W.frozen? ⟨bs,i,none⟩=false∧W.frozen? ⟨bt,i,none⟩=false:=by
 obtain⟨a1,_,_,e1,_,_,_,h1,f1⟩:=h.r.at ptE_ok (range_at ps hi)
 obtain⟨a2,_,_,e2,_,_,_,h2,f2⟩:=h.s.at slE_ok (range_at ss hi)
 obtain⟨a3,_,_,e3,_,_,_,h3,f3⟩:=h.t.at ntE_ok (range_at g.told hi)
 rw[range_len] at e1 e2 e3
 cases e1;cases e2;cases e3
 have g1:=h1 0 _ rfl
 have g2:=h2 0 _ rfl
 have g3:=h3 0 _ rfl
 simp only[ptE,slE,ntE,Nat.mul_one,Nat.add_zero] at g1 g2 g3
 exact⟨g1,g2,g3,f1 i,f2 i,f3 i⟩
theorem GV.rp {c c':Lb}{W W':World}{gp i:Nat}{g:Gp Op}{ps:Nat→Nat}{rv kv sv wv tv ov:Value}{ss:Nat→Sl3}(hg:c gp=200)(hB:Blk W gp 69 [rv,kv,sv,wv,tv,ov])(h:GP c W ps g rv kv sv wv tv ov ss)(hi:i<g.n)(hn:g.n≤7){r':Rp Op}(hx:Lx W c c')(hf:Fr (Fi i) c W W')(hr:RV i c' W' (ps i) r'):
 c' gp=200∧Blk W' gp 69 [rv,kv,sv,wv,tv,ov]∧GP c' W' ps {g with r:=upd g.r i r'} rv kv sv wv tv ov ss:=by
 have K:=h.keepF (Fi i) hx hf.block
 have hF: ∀l,¬(10+10*i≤l∧l≤15+10*i)→ ¬Fi i l:=fun l hl=>hl
 refine⟨(hx gp hB.lt).trans hg,(hf.block gp hB.lt (hF _ (by rw[hg];omega))).trans hB,K.r (hF _ Z11),K.k (hF _ Z11) (hF _ Z11),K.s (hF _ Z11),K.w (hF _ Z11) (hF _ Z11),K.t (hF _ Z11),K.o (hF _ Z11) (hF _ Z11),fun k hk=>K.sv k hk (hF _ Z11) (hF _ Z11),fun k hk=> ?_⟩
 show RV k c' W' (ps k) (upd g.r i r' k)
 by_cases e:k=i
 ·rw[e,upd_same];exact hr
 ·rw[upd_ne _ _ e]
  exact K.rp k hk fun l hl=>hF _ Z11
theorem GV.sv1 {c c':Lb}{W W':World}{gp i bs cs:Nat}{g:Gp Op}{ps:Nat→Nat}{rv kv wv tv ov:Value}{ss:Nat→Sl3}(hg:c gp=200∧c bs=203)(hbs:bs<W.heap.size)(hB:Blk W gp 69 [rv,kv,.slice (some ⟨bs,0,none⟩) g.n cs,wv,tv,ov])(h:GP c W ps g rv kv (.slice (some ⟨bs,0,none⟩) g.n cs) wv tv ov ss)(hi:i<g.n)(hn:g.n≤7)
 (hx:Lx W c c') (hf:Fr (fun l=>l=210+i) c W W') {a:Option Addr} {n q:Nat} {l:List (Sv Op)} (hr:Row (svE 2) c' (210+i) W' (.slice a n q) l):
 c' gp=200∧Fr (fun l=>l=203∨l=210+i) c W (W'.setCell ⟨bs,i,none⟩ (.slice a n q))∧Blk (W'.setCell ⟨bs,i,none⟩ (.slice a n q)) gp 69 [rv,kv,.slice (some ⟨bs,0,none⟩) g.n cs,wv,tv,ov]∧GP c' (W'.setCell ⟨bs,i,none⟩ (.slice a n q)) ps {g with saves:=upd g.saves i l} rv kv (.slice (some ⟨bs,0,none⟩) g.n cs) wv tv ov (upd ss i ⟨a,n,q⟩):=by
 have hF2:Fr (fun l=>l=203∨l=210+i) c W (W'.setCell ⟨bs,i,none⟩ (.slice a n q)):=(hf.mono (G:=fun l=>l=203∨l=210+i) fun l hl=> .inr hl).set _ _ fun _=> .inl hg.2
 have K:=h.keepF (fun l=>l=203∨l=210+i) hx hF2.block
 have hcg:c' gp=200:=(hx gp hB.lt).trans hg.1
 have hne:gp≠bs:=fun e=>by have h1:=hg.1;rw[e,hg.2] at h1;omega
 have hK1:=h.keepF (fun l=>l=210+i) hx hf.block
 have hs1:=hK1.s Z11
 rw[show((List.range g.n).map ss)=((List.range g.n).map ss) from rfl] at hs1
 have hs2:=Row.set1 (E:=slE) (f:=Sl3.v) (g:=bs) (cap:=cs) (j:=i) (a:=⟨a,n,q⟩) rfl (fun _ _=>rfl) (fun _ _ _ _=>trivial) (l:=(List.range g.n).map ss) (c:=c') (lo:=203) (W:=W') (by rw[range_len];exact hs1) (by rw[range_len];exact hi)
 rw[range_len,←map_upd] at hs2
 refine⟨hcg,hF2,?_,K.r Z11,K.k Z11 Z11,hs2,K.w Z11 Z11,K.t Z11,K.o Z11 Z11,fun k hk=> ?_,fun k hk=>K.rp k hk fun l hl=>Z55⟩
 ·exact(hF2.block gp hB.lt (by rw[hg.1];omega)).trans hB
 ·show Row (svE 2) c' (210+k) _ (upd ss i ⟨a,n,q⟩ k).v (upd g.saves i l k)
  by_cases e:k=i
  ·rw[e,upd_same,upd_same]
   refine hr.keep (svE_ok 2) (Lx.refl _ _) fun j hj hl=>set_heap_ne _ _ _ _ _ fun e2=> ?_
   have h1:c' bs=203:=(hx bs hbs).trans hg.2
   rw[e2,h1] at hl
   rcases hl with hl|hl
   ·have:(203:Nat)=2:=hl
    omega
   ·omega
  ·rw[upd_ne _ _ e,upd_ne _ _ e]
   exact K.sv k hk Z55 Z11
theorem GV.t1 {c:Lb}{W:World}{gp i bt ct:Nat}{g:Gp Op}{ps:Nat→Nat}{rv kv sv wv ov:Value}{ss:Nat→Sl3}(hg:c gp=200∧c bt=205)(hB:Blk W gp 69 [rv,kv,sv,wv,.slice (some ⟨bt,0,none⟩) g.n ct,ov])(h:GP c W ps g rv kv sv wv (.slice (some ⟨bt,0,none⟩) g.n ct) ov ss)(hi:i<g.n)(hn:g.n≤7)(x:Nat):
 Fr (fun l=>l=205) c W (W.setCell ⟨bt,i,none⟩ (.int .i64 (x:Int)))∧Blk (W.setCell ⟨bt,i,none⟩ (.int .i64 (x:Int))) gp 69 [rv,kv,sv,wv,.slice (some ⟨bt,0,none⟩) g.n ct,ov]∧GP c (W.setCell ⟨bt,i,none⟩ (.int .i64 (x:Int))) ps {g with told:=upd g.told i x} rv kv sv wv (.slice (some ⟨bt,0,none⟩) g.n ct) ov ss:=by
 have hF:Fr (fun l=>l=205) c W (W.setCell ⟨bt,i,none⟩ (.int .i64 (x:Int))):=(Fr.refl _ _ _).set _ _ fun _=>hg.2
 have K:=h.keepF (fun l=>l=205) (Lx.refl _ _) hF.block
 have ht:=h.t
 have ht2:=Row.set1 (E:=ntE) (f:=fun a=> .int .i64 (a:Int)) (g:=bt) (cap:=ct) (j:=i) (a:=x) rfl (fun _ _=>rfl) (fun _ _ _ _=>trivial) (l:=(List.range g.n).map g.told) (c:=c) (lo:=205) (W:=W) (by rw[range_len];exact ht) (by rw[range_len];exact hi)
 rw[range_len,←map_upd] at ht2
 exact⟨hF,(hF.block gp hB.lt (by rw[hg.1];omega)).trans hB,K.r Z11,K.k Z11 Z11,K.s Z11,K.w Z11 Z11,ht2,K.o Z11 Z11,fun k hk=>K.sv k hk Z55 Z11,fun k hk=>K.rp k hk fun l hl=>Z55⟩
theorem GV.r1 {c c':Lb}{W W':World}{gp i br cr p:Nat}{g:Gp Op}{ps:Nat→Nat}{kv sv wv tv ov:Value}{ss:Nat→Sl3}(hg:c gp=200∧c br=201)(hbr:br<W.heap.size)(hB:Blk W gp 69 [.slice (some ⟨br,0,none⟩) g.n cr,kv,sv,wv,tv,ov])(h:GP c W ps g (.slice (some ⟨br,0,none⟩) g.n cr) kv sv wv tv ov ss)(hi:i<g.n)
 (hx:Lx W c c') (hf:Fr (Fi i) c W W') (hn:g.n≤7) {r:Rp Op} (hr:RV i c' W' p r):
 c' gp=200∧Fr (fun l=>l=201∨Fi i l) c W (W'.setCell ⟨br,i,none⟩ (.pointer (some ⟨p,0,none⟩)))∧Blk (W'.setCell ⟨br,i,none⟩ (.pointer (some ⟨p,0,none⟩))) gp 69 [.slice (some ⟨br,0,none⟩) g.n cr,kv,sv,wv,tv,ov]∧GP c' (W'.setCell ⟨br,i,none⟩ (.pointer (some ⟨p,0,none⟩))) (upd ps i p) {g with r:=upd g.r i r} (.slice (some ⟨br,0,none⟩) g.n cr) kv sv wv tv ov ss:=by
 have hFi: ∀l,¬(10+10*i≤l∧l≤15+10*i)→ ¬Fi i l:=fun l hl=>hl
 have hF2:Fr (fun l=>l=201∨Fi i l) c W (W'.setCell ⟨br,i,none⟩ (.pointer (some ⟨p,0,none⟩))):=(hf.mono (G:=fun l=>l=201∨Fi i l) fun l hl=> .inr hl).set _ _ fun _=> .inl hg.2
 have K:=h.keepF (fun l=>l=201∨Fi i l) hx hF2.block
 have K1:=h.keepF (Fi i) hx hf.block
 have hr1:=K1.r (hFi _ Z11)
 have hr2:=Row.set1 (E:=ptE) (f:=fun a=> .pointer (some ⟨a,0,none⟩)) (g:=br) (cap:=cr) (j:=i) (a:=p) rfl (fun _ _=>rfl) (fun _ _ _ _=>trivial) (l:=(List.range g.n).map ps) (c:=c') (lo:=201) (W:=W') (by rw[range_len];exact hr1) (by rw[range_len];exact hi)
 rw[range_len,←map_upd] at hr2
 have hno: ∀l,l≠201→ ¬(10+10*i≤l∧l≤15+10*i)→ ¬(l=201∨Fi i l):=fun l h1 h2 h3=>by
  rcases h3 with h3|h3
  ·exact h1 h3
  ·exact h2 h3
 refine⟨(hx gp hB.lt).trans hg.1,hF2,(hF2.block gp hB.lt (by rw[hg.1];exact hno _ Z11 Z11)).trans hB,hr2,K.k (hno _ Z11 Z11) (hno _ Z11 Z11),K.s (hno _ Z11 Z11),K.w (hno _ Z11 Z11) (hno _ Z11 Z11),K.t (hno _ Z11 Z11),K.o (hno _ Z11 Z11) (hno _ Z11 Z11),fun k hk=>K.sv k hk (hno _ Z55 Z55) (hno _ Z11 Z11),fun k hk=> ?_⟩
 show RV k c' _ (upd ps i p k) (upd g.r i r k)
 by_cases e:k=i
 ·rw[e,upd_same,upd_same]
  refine hr.keep (Lx.refl _ _) fun j hj hl=>set_heap_ne _ _ _ _ _ fun e2=> ?_
  have h1:c' br=201:=(hx br hbr).trans hg.2
  rw[e2,h1] at hl
  omega
 ·rw[upd_ne _ _ e,upd_ne _ _ e]
  exact K.rp k hk fun l hl=>hno _ Z55 Z55
theorem GV.o1 {c c':Lb}{W W':World}{gp:Nat}{g:Gp Op}{ps:Nat→Nat}{rv kv sv wv tv ov ov':Value}{ss:Nat→Sl3}(hg:c gp=200)(hB:Blk W gp 69 [rv,kv,sv,wv,tv,ov])(h:GP c W ps g rv kv sv wv tv ov ss)(hn:g.n≤7)
 (hx:Lx W c c') (hf:Fr (fun l=>l=206) c W W') {l:List Op} (hr:Row (opE 1) c' 206 W' ov' l):
 c' gp=200∧Fr (fun l=>l=200∨l=206) c W (W'.setCell ⟨gp,5,none⟩ ov')∧Blk (W'.setCell ⟨gp,5,none⟩ ov') gp 69 [rv,kv,sv,wv,tv,ov']∧GP c' (W'.setCell ⟨gp,5,none⟩ ov') ps {g with order:=l} rv kv sv wv tv ov' ss:=by
 have hF2:Fr (fun l=>l=200∨l=206) c W (W'.setCell ⟨gp,5,none⟩ ov'):=(hf.mono (G:=fun l=>l=200∨l=206) fun l hl=> .inr hl).set _ _ fun _=> .inl hg
 have K:=h.keepF (fun l=>l=200∨l=206) hx hF2.block
 have hcg:c' gp=200:=(hx gp hB.lt).trans hg
 have hB':Blk W' gp 69 [rv,kv,sv,wv,tv,ov]:=(hf.block gp hB.lt (by rw[hg];omega)).trans hB
 refine⟨hcg,hF2,hB'.set 5 ov',K.r Z11,K.k Z11 Z11,K.s Z11,K.w Z11 Z11,K.t Z11,?_,fun k hk=>K.sv k hk Z55 Z11,fun k hk=>K.rp k hk fun l hl=>Z55⟩
 refine hr.keep (opE_ok 1) (Lx.refl _ _) fun j hj hl=>set_heap_ne _ _ _ _ _ fun e2=> ?_
 rw[e2,hcg] at hl
 rcases hl with hl|hl
 ·have:(200:Nat)=1:=hl
  omega
 ·omega
theorem GV.w1 {c c':Lb}{W W':World}{gp:Nat}{g:Gp Op}{ps:Nat→Nat}{rv kv sv wv tv ov wv':Value}{ss:Nat→Sl3}(hg:c gp=200)(hB:Blk W gp 69 [rv,kv,sv,wv,tv,ov])(h:GP c W ps g rv kv sv wv tv ov ss)(hn:g.n≤7)
 (hx:Lx W c c') (hf:Fr (fun l=>l=204) c W W') {l:List (Sd Op)} (hr:Row (sdE 3) c' 204 W' wv' l):
 c' gp=200∧Fr (fun l=>l=200∨l=204) c W (W'.setCell ⟨gp,3,none⟩ wv')∧Blk (W'.setCell ⟨gp,3,none⟩ wv') gp 69 [rv,kv,sv,wv',tv,ov]∧GP c' (W'.setCell ⟨gp,3,none⟩ wv') ps {g with way:=l} rv kv sv wv' tv ov ss:=by
 have hF2:Fr (fun l=>l=200∨l=204) c W (W'.setCell ⟨gp,3,none⟩ wv'):=(hf.mono (G:=fun l=>l=200∨l=204) fun l hl=> .inr hl).set _ _ fun _=> .inl hg
 have K:=h.keepF (fun l=>l=200∨l=204) hx hF2.block
 have hcg:c' gp=200:=(hx gp hB.lt).trans hg
 have hB':Blk W' gp 69 [rv,kv,sv,wv,tv,ov]:=(hf.block gp hB.lt (by rw[hg];omega)).trans hB
 refine⟨hcg,hF2,hB'.set 3 wv',K.r Z11,K.k Z11 Z11,K.s Z11,?_,K.t Z11,K.o Z11 Z11,fun k hk=>K.sv k hk Z55 Z11,fun k hk=>K.rp k hk fun l hl=>Z55⟩
 refine hr.keep (sdE_ok 3) (Lx.refl _ _) fun j hj hl=>set_heap_ne _ _ _ _ _ fun e2=> ?_
 rw[e2,hcg] at hl
 rcases hl with hl|hl
 ·have:(200:Nat)=3:=hl
  omega
 ·omega
end Go.Proofs.YtdmjegelcdghlaaGreat.Vw
