/-
  Chapter 22, plain: how long what has to last may be.
-/
import Derived.Test.YtdmjegelcdghlaaGreatGIr
set_option maxRecDepth 100000
set_option maxHeartbeats 64000000
set_option linter.unusedVariables false
set_option linter.unusedSimpArgs false
namespace Go.Proofs.YtdmjegelcdghlaaGreat.Vw
variable {O:Type}
variable {N:Nat} {ok:O→Bool} {h h':Gh O} {g:Gp O}
def Szn (b:Nat)(r r':Rp O):Prop:= ∀x∈r'.saves,x∈r.saves∨x.ops.length≤b
theorem Szn.same {b:Nat}{r r':Rp O}(e:r'.saves=r.saves):Szn b r r':=fun x hx=> .inl (e▸hx)
theorem Szn.trans {b:Nat}{r r1 r2:Rp O}(p:Szn b r r1)(q:Szn b r1 r2):Szn b r r2:=fun x hx=>by
 rcases q x hx with h|h
 ·exact p x h
 ·exact .inr h
theorem Szn.up {b b':Nat}{r r':Rp O}(p:Szn b r r')(hb:b≤b'):Szn b' r r':=fun x hx=>(p x hx).imp id fun h=>Nat.le_trans h hb
theorem sz_save (r:Rp O)(a b:Nat)(hb:r.log.length≤b):Szn b r (save r a):=fun x hx=>by
 rcases List.mem_append.1 hx with h|h
 ·exact .inl h
 ·rw[List.mem_singleton.1 h]
  refine .inr ?_
  show(r.log.drop (a-r.bs)).length≤b
  rw[List.length_drop];omega
theorem sz_turn (r:Rp O)(v b:Nat):Szn b r (turn r v):=fun x hx=>by
 have hx':x∈r.saves++ [⟨false,v,0,[],0⟩]:=hx
 rcases List.mem_append.1 hx' with h|h
 ·exact .inl h
 ·rw[List.mem_singleton.1 h];exact .inr (Nat.zero_le _)
theorem layL_le (r:Rp O)(a:Nat)(ops:List O):(layL r a ops).length≤r.log.length+ops.length:=by
 unfold layL
 rw[List.length_append,List.length_take,List.length_drop];omega
theorem sz_begin (r:Rp O)(a:Nat)(hl:r.log.length≤a)(ho: ∀k o,r.offs k=some o→o.ops.length≤a):Szn (2*a) r (begin_ r):=by
 unfold begin_
 split
 ·split
  ·exact Szn.same rfl
  ·rename_i o hb
   dsimp only
   have hm:=(bestO_spec _ _ hb).1
   unfold offL at hm
   obtain⟨k,_,hk⟩:=List.mem_filterMap.1 hm
   have h1:=ho k o hk
   have h2:Szn (2*a) r (begun1 r o):=Szn.same rfl
   have h3:(begun1 r o).log.length≤2*a:=by
    show(layL r o.ao o.ops).length≤_
    have:=layL_le r o.ao o.ops
    omega
   refine(h2.trans (sz_save _ (max o.ao r.bs) _ h3)).trans (Szn.same ?_)
   rw[start_eq];rfl
 ·exact Szn.same rfl
theorem chg0_saves (r:Rp O)(v:Nat):(chg0 r v).saves=(turn r v).saves∧(chg0 r v).log=r.log:=by
 unfold chg0 offer
 rw[snd1_eq,sndL_eq]
 exact⟨rfl,rfl⟩
theorem sz_change (r:Rp O)(v a:Nat)(hl:r.log.length≤a):Szn (2*a) r (change r v):=by
 have hc:=chg0_saves r v
 rw[change_is]
 refine Szn.trans (r1:=chg0 r v) (fun x hx=> ?_) (sz_begin _ a (by rw[hc.2];exact hl) fun k o ho=> ?_)
 ·rw[hc.1] at hx
  exact sz_turn r v _ x hx
 ·rw[(chg0_is r v).2.2.2.2.2.2.2.1] at ho
  split at ho
  ·unfold upd at ho
   split at ho
   ·cases ho;exact hl
   ·cases ho
  ·cases ho
theorem sz_take (r:Rp O)(m:Ms O)(a:Nat)(hl:r.log.length≤a)(hm:m.ops.length≤a)(ho: ∀k o,r.offs k=some o→o.ops.length≤a):Szn (2*a) r (take r m):=by
 have hrefl:Szn (2*a) r r:=Szn.same rfl
 unfold take
 split
 ·exact Z115
 rename_i hnv
 split
 ·have hp: ∀q:Rp O,q.log=r.log→Szn (2*a) q (prepare q m):=fun q e=>by
   unfold prepare report
   split
   ·rw[snd1_eq]
    refine Szn.trans (r1:=prep1 q m) ?_ (Szn.same rfl)
    unfold prep1
    dsimp only
    split
    ·refine Szn.trans (r1:= {q with st:=0,idle:=0,log:=q.log++m.ops.drop (q.ls-m.ao),ls:=m.ao+m.ops.length}) (Szn.same rfl) (sz_save _ _ _ ?_)
     show(q.log++m.ops.drop (q.ls-m.ao)).length≤_
     rw[List.length_append,List.length_drop,e];omega
    ·exact Szn.same rfl
   ·rw[snd1_eq];exact Szn.same rfl
  split
  ·exact(sz_turn r m.vw _).trans (hp _ rfl)
  ·exact hp r rfl
 split
 ·split
  ·exact hrefl
  ·split
   ·exact Szn.same rfl
   ·exact hrefl
 split
 ·split
  ·exact sz_change r _ a hl
  ·split
   ·rw[start_eq];exact hrefl
   ·exact hrefl
 split
 ·have hof: ∀q:Rp O,q.log.length≤a→(∀k o,q.offs k=some o→o.ops.length≤a)→Szn (2*a) q (offerM q m):=fun q h1 h2=>by
   unfold offerM
   split
   ·refine Szn.trans (r1:= {q with offs:=upd q.offs m.fr (some ⟨m.nr,m.ao,m.cm,m.ops⟩)}) (Szn.same rfl) (sz_begin _ a h1 fun k o hk=> ?_)
    have hk':upd q.offs m.fr (some ⟨m.nr,m.ao,m.cm,m.ops⟩) k=some o:=hk
    unfold upd at hk'
    split at hk'
    ·cases hk';exact hm
    ·exact h2 k o hk'
   ·split
    ·rw[start_eq];exact Szn.same rfl
    ·exact Szn.same rfl
  split
  ·rename_i hv
   have hc:=chg0_saves r m.vw
   refine(sz_change r m.vw a hl).trans ?_
   rw[change_is]
   by_cases hb:mayBegin (chg0 r m.vw)=true
   ·
     have hst:(begin_ (chg0 r m.vw)).st≠1:=by
      rcases begin_out (chg0 r m.vw) with e|e
      ·unfold begin_ at e⊢
       rw[if_pos hb] at e⊢
       have hlen:0<(offL (chg0 r m.vw)).length:=by
        unfold mayBegin at hb
        simp only[Bool.and_eq_true,decide_eq_true_eq] at hb
        omega
       obtain⟨o,ho2⟩:=bestO_some _ hlen
       rw[ho2]
       dsimp only
       rw[start_eq]
       show(0:Nat)≠1
       omega
      ·rw[e];omega
     unfold offerM
     rw[if_neg (fun hx=>hst hx.1)]
     split
     ·rw[start_eq];exact Szn.same rfl
     ·exact Szn.same rfl
   ·have e:begin_ (chg0 r m.vw)=chg0 r m.vw:=by unfold begin_;rw[if_neg hb]
    rw[e]
    refine hof _ (by rw[hc.2];exact hl) fun k o hk=> ?_
    rw[(chg0_is r m.vw).2.2.2.2.2.2.2.1] at hk
    split at hk
    ·unfold upd at hk
     split at hk
     ·cases hk;exact hl
     ·cases hk
    ·cases hk
  ·exact hof r hl ho
 split
 ·unfold begunM report
  split
  ·rw[snd1_eq];exact Szn.same rfl
  ·split
   ·exact hrefl
   ·rw[snd1_eq]
    refine Szn.trans (r1:=begunM1 r m) (Szn.same rfl) (Szn.trans (sz_save (begunM1 r m) _ _ ?_) (Szn.same rfl))
    show(layL r m.ao m.ops).length≤_
    have:=layL_le r m.ao m.ops
    omega
 split
 ·split
  ·exact hrefl
  ·split
   ·rw[start_eq];exact hrefl
   ·exact hrefl
 ·exact hrefl
theorem sz_tick (r:Rp O)(a:Nat)(hl:r.log.length≤a):Szn (2*a) r (tick r):=by
 rcases tick_cases r with⟨_,e⟩|⟨_,_,_,e⟩|⟨_,_,o,e,_⟩
 ·rw[e,tell_eq];exact Szn.same rfl
 ·rw[e];exact fun x hx=>sz_change {r with idle:=r.idle+1} _ a hl x hx
 ·rw[e];exact Szn.same rfl
theorem sz_ask (r:Rp O)(o:O)(a:Nat)(hl:r.log.length+1≤a):Szn (2*a) r (ask r o):=by
 unfold ask
 rw[tell_eq]
 refine Szn.trans (r1:=ask1 r o) (Szn.same rfl) (Szn.trans (sz_save (ask1 r o) r.ls (2*a) ?_) (Szn.same rfl))
 show(r.log++ [o]).length≤_
 rw[List.length_append]
 show r.log.length+1≤_
 omega
theorem change_idle (r:Rp O)(v:Nat):(change r v).idle=0:=by
 rw[change_is,begin_idle]
 unfold chg0 offer
 rw[snd1_eq,sndL_eq]
 rfl
theorem offerM_idle (r:Rp O)(m:Ms O):(offerM r m).idle=r.idle:=by
 unfold offerM
 split
 ·rw[begin_idle]
 ·exact Z129
theorem prepare_idle (r:Rp O)(m:Ms O):(prepare r m).idle≤r.idle:=by
 unfold prepare report
 split
 ·rw[snd1_eq]
  show(prep1 r m).idle≤_
  unfold prep1
  dsimp only
  split<;>exact Nat.zero_le _
 ·rw[snd1_eq];exact Nat.le_refl _
theorem take_idle (r:Rp O)(m:Ms O):(take r m).idle≤r.idle:=by
 unfold take
 split
 ·split
  ·rw[snd1_eq];exact Nat.le_refl _
  ·exact Nat.le_refl _
 split
 ·split
  ·exact Nat.le_trans (prepare_idle _ m) (Nat.zero_le _)
  ·exact prepare_idle r m
 split
 ·split
  ·exact Nat.le_refl _
  ·split<;>exact Nat.le_refl _
 split
 ·split
  ·rw[change_idle];exact Nat.zero_le _
  ·split
   ·rw[start_eq];exact Nat.le_refl _
   ·exact Nat.le_refl _
 split
 ·rw[offerM_idle]
  split
  ·rw[change_idle];exact Nat.zero_le _
  ·exact Nat.le_refl _
 split
 ·unfold begunM report
  split
  ·rw[snd1_eq];exact Nat.zero_le _
  ·split
   ·exact Nat.le_refl _
   ·rw[snd1_eq];exact Nat.zero_le _
 split
 ·split
  ·exact Nat.le_refl _
  ·split
   ·rw[start_eq];exact Nat.le_refl _
   ·exact Nat.le_refl _
 ·exact Nat.le_refl _
theorem tick_idle (r:Rp O):(tick r).idle≤r.idle+1:=by
 rcases tick_cases r with⟨_,e⟩|⟨_,_,_,e⟩|⟨_,_,o,e,_⟩
 ·rw[e,tell_eq];exact Nat.le_succ _
 ·rw[e,change_idle];exact Nat.zero_le _
 ·rw[e];exact Nat.le_refl _
theorem ask_idle (r:Rp O)(o:O):(ask r o).idle=r.idle:=by
 unfold ask
 rw[tell_eq];rfl
theorem ldS_idle {q q':Rp O}{x:Sv O}(h:ldS ok q x=some q'):q'.idle=q.idle:=by
 unfold ldS at h
 split at h
 ·split at h
  ·split at h
   ·cases h;rfl
   ·cases h
  ·split at h
   ·cases h;rfl
   ·cases h
 ·cases h
theorem ldL_idle: ∀(l:List (Sv O)) (q q':Rp O),ldL ok q l=some q'→q'.idle=q.idle
 | [],q,q',h=>by
  unfold ldL at h
  cases h;rfl
 |x::l,q,q',h=>by
  unfold ldL at h
  cases hs:ldS ok q x with
  |none=>rw[hs] at h;cases h
  |some r1=>
   rw[hs] at h
   exact(ldL_idle l r1 q' h).trans (ldS_idle hs)
theorem load_idle {i n:Nat}{k:Kt O}{l:List (Sv O)}{r:Rp O}(h:load ok i n k l=some r):r.idle=0:=by
 unfold load at h
 cases h0:ldK ok i n k with
 |none=>rw[h0] at h;cases h
 |some q0=>
  rw[h0] at h
  dsimp only at h
  cases h1:ldL ok q0 l with
  |none=>rw[h1] at h;cases h
  |some q1=>
   rw[h1] at h
   have e:=Option.some.inj h
   have e0:q0.idle=0:=by
    unfold ldK at h0
    split at h0
    ·cases h0;rfl
    ·cases h0
   have e1:=ldL_idle l q0 q1 h1
   rw[←e]
   have e2:(ldE q1).idle=q1.idle:=by unfold ldE;dsimp only;split<;>rfl
   rw[e2,e1,e0]
def Idl (b:Nat)(g:Gp O):Prop:= ∀k,k<g.n→(g.r k).idle≤b
theorem Idl.now {b d:Nat}(I:Idl b g){i:Nat}{r:Rp O}(hr:r.idle≤b+d):Idl (b+d) (g.now i r):=fun k hk=>by
 rw[now_r]
 by_cases e:k=i
 ·rw[e,upd_same];exact hr
 ·rw[upd_ne _ _ e];exact Nat.le_trans (I k hk) (Nat.le_add_right _ _)
structure SvB (m b:Nat)(g:Gp O):Prop where
 n: ∀i,i<g.n→(g.saves i).length≤m
 o: ∀i,i<g.n→ ∀x∈g.saves i,x.ops.length≤b
 k: ∀i,i<g.n→(g.kept i).ops.length≤b
theorem SvB.zero (n:Nat):SvB 0 0 (gp0 n:Gp O):=⟨fun _ _=>Nat.le_refl _,fun _ _ x hx=>(by cases hx),fun _ _=>Nat.le_refl _⟩
theorem SvB.up {m b m' b':Nat}(S:SvB m b g)(hm:m≤m')(hb:b≤b'):SvB m' b' g:=⟨fun i hi=>Nat.le_trans (S.n i hi) hm,fun i hi x hx=>Nat.le_trans (S.o i hi x hx) hb,fun i hi=>Nat.le_trans (S.k i hi) hb⟩
theorem SvB.now {m b d:Nat}(S:SvB m b g){i:Nat}(hi:i<g.n){r r':Rp O}(h0:r.saves= [])(hs:r'.saves.length≤r.saves.length+d)(hz:Szn b r r'):SvB (m+d) b (g.now i r'):=by
 have e:(g.now i r').saves=upd g.saves i (g.saves i++r'.saves):=by
  show upd g.saves i (g.saves i++(upd g.r i r' i).saves)=_
  rw[upd_same]
 refine⟨fun k hk=> ?_,fun k hk x hx=> ?_,S.k⟩
 ·rw[e]
  by_cases ek:k=i
  ·rw[ek,upd_same,List.length_append]
   have:=S.n i hi
   rw[h0] at hs
   simp at hs
   omega
  ·rw[upd_ne _ _ ek];exact Nat.le_trans (S.n k hk) Z18
 ·rw[e] at hx
  by_cases ek:k=i
  ·rw[ek,upd_same] at hx
   rcases List.mem_append.1 hx with hx|hx
   ·exact S.o i hi x hx
   ·rcases hz x hx with h|h
    ·rw[h0] at h;cases h
    ·exact h
  ·rw[upd_ne _ _ ek] at hx;exact S.o k hk x hx
theorem SvB.keep {m b:Nat}(S:SvB m b g){i:Nat}(hi:i<g.n)(hl:(g.r i).log.length≤b):SvB m b (evKeep g i):=by
 refine⟨fun k hk=> ?_,fun k hk x hx=> ?_,fun k hk=> ?_⟩
 ·show(upd g.saves i [] k).length≤m
  by_cases ek:k=i
  ·rw[ek,upd_same];exact Nat.zero_le _
  ·rw[upd_ne _ _ ek];exact S.n k hk
 ·have hx':x∈upd g.saves i [] k:=hx
  by_cases ek:k=i
  ·rw[ek,upd_same] at hx';cases hx'
  ·rw[upd_ne _ _ ek] at hx';exact S.o k hk x hx'
 ·show(upd g.kept i (keptOf (g.r i)) k).ops.length≤b
  by_cases ek:k=i
  ·rw[ek,upd_same];exact hl
  ·rw[upd_ne _ _ ek];exact S.k k hk
theorem SvB.load {m b:Nat}(S:SvB m b g){i:Nat}(hi:i<g.n){r:Rp O}(h0:r.saves= []):SvB m b (evLoad g i r):=by
 have e:(evLoad g i r).saves=upd g.saves i (g.saves i++r.saves):=by
  show upd g.saves i (g.saves i++(upd g.r i r i).saves)=_
  rw[upd_same]
 have e2:(evLoad g i r).saves=g.saves:=by rw[e,h0,List.append_nil,upd_eta]
 exact⟨fun k hk=>by rw[e2];exact S.n k hk,fun k hk x hx=>by rw[e2] at hx;exact S.o k hk x hx,S.k⟩
end Go.Proofs.YtdmjegelcdghlaaGreat.Vw
