/-
  Chapter 22: the offers that are there; an offer's last entry.
-/
import Derived.Test.YtdmjegelcdghlaaGreatGDt
import Derived.Test.YtdmjegelcdghlaaGreatGQs
set_option maxRecDepth 100000
set_option maxHeartbeats 64000000
set_option linter.unusedVariables false
set_option linter.unusedSimpArgs false
namespace Go.Proofs.YtdmjegelcdghlaaGreat.Vw
open Go.RowKit Go.Maps
theorem OfR.look {i:Nat}{c:Lb}{W:World}{ov:Value}{r:Rp Op}(h:OfR i c W ov r)(k:Nat)(hk:k≤1000000):
 (r.offs k=none∧ ∀W',Below W.heap.size W W'→(Instr.lookup 92 ov (.int .i64 (k:Int)) true).run Tryz.prog W'= .ok (.tuple #[.agg #[.int .i64 0,.int .i64 0,.int .i64 0,.slice none 0 0],.bool false]) W')∨
  ∃o ua uc,r.offs k=some o∧(∀W',Below W.heap.size W W'→(Instr.lookup 92 ov (.int .i64 (k:Int)) true).run Tryz.prog W'= .ok (.tuple #[.agg #[.int .i64 (o.nr:Int),.int .i64 (o.ao:Int),.int .i64 (o.cm:Int),.slice ua o.ops.length uc],.bool true]) W')∧SlR (opE 1) c 1 W (.slice ua o.ops.length uc) o.ops∧o.ops.length≤1048576:=by
 rcases h with⟨rfl,_,h3⟩|⟨m,rfl,_,h3⟩
 ·exact .inl ⟨h3 k,fun W' _=>Maps.look_nil true ikey Tryz.underlying92 (of_zero W') (ikeyOf k hk)⟩
 ·have hlt:=h3.lt
  obtain⟨D,us,⟨es,clock,h0,F,hs,hD⟩,h2,h3,h4⟩:=h3.ex
  have hrun: ∀W',Below W.heap.size W W'→ ∃v,(Instr.lookup 92 (.map (some m)) (.int .i64 (k:Int)) true).run Tryz.prog W'= .ok (.tuple #[v,.bool (has D (.int .i64 (k:Int)))]) W'∧heldR v=some (D.atKey (.int .i64 (k:Int)) (.held (.agg #[.int .i64 0,.int .i64 0,.int .i64 0,.slice none 0 0])),[]):=fun W' hb=>by
   have h1:W'.ownsMap Tryz.prog 3 heldR m (cntO r.offs r.n) D:=⟨es,clock,(hb.block m hlt).trans h0,F,hs,hD⟩
   obtain⟨v,ps,hrun,hv⟩:=h1.look_ok ikey Tryz.underlying92 (of_zero W') (zd:= .held (.agg #[.int .i64 0,.int .i64 0,.int .i64 0,.slice none 0 0])) (zp:= []) rfl (key:= .int .i64 (k:Int)) (ikeyOf k hk)
   refine⟨v,hrun,?_⟩
   unfold heldR at hv⊢
   simp at hv⊢
   exact hv.1
  cases hf:r.offs k with
  |none=>
   have hno:=h4 k hf
   refine .inl ⟨rfl,fun W' hb=> ?_⟩
   obtain⟨v,h5,h6⟩:=hrun W' hb
   unfold heldR at h6
   rw[atKey_of_not_has hno] at h6
   simp at h6
   rw[h5,hno,h6]
  |some o=>
   obtain⟨g1,g2,g3,g4,g5⟩:=h3 k o hf
   obtain⟨ua,uc,e⟩:=g4.slice
   refine .inr ⟨o,ua,uc,rfl,fun W' hb=> ?_,by rw[←e];exact g4,g5⟩
   obtain⟨v,h5,h6⟩:=hrun W' hb
   unfold heldR at h6
   rw[g3] at h6
   simp at h6
   rw[h5,g2,h6]
   unfold ofV
   rw[e]
def ofC (o:Of Op)(u:Value):List Value:= [.int .i64 (o.nr:Int),.int .i64 (o.ao:Int),.int .i64 (o.cm:Int),u]
structure OfI (li:Nat)(c:Lb)(W:World)(u:Value)(o:Of Op):Prop where
 s:SlR (opE li) c li W u o.ops
 n:o.ops.length≤1048576
def ofE (li:Nat):Ek (Of Op):=⟨4,105,ofC,fun c W u o=>OfI li c W u o,fun k=>k=li⟩
theorem ofE_ok (li:Nat):(ofE li).Ok:=by
 refine⟨by show 0<4;decide,fun _ _=>rfl,fun c W a u h x hx=> ?_,fun c c' W W' u a h hc hb=>⟨h.s.keep (opE_ok li) hc fun k hk hl=>hb k hk Z71,h.n⟩⟩
 obtain⟨ua,uc,e⟩:=h.s.slice
 subst e
 simp only[ofE,ofC,List.mem_cons,List.not_mem_nil,or_false] at hx
 rcases hx with rfl|rfl|rfl|rfl<;>rfl
def caE:Ek (Of Op):=⟨2,124,fun o _=> [.int .i64 (o.nr:Int),.int .i64 (o.last:Int)],fun _ _ _ _=>True,fun _=>False⟩
theorem caE_ok:caE.Ok:=by
 refine⟨Z37,fun _ _=>rfl,fun c W a u h x hx=> ?_,fun _ _ _ _ _ _ _ _ _=>trivial⟩
 simp only[caE,List.mem_cons,List.not_mem_nil,or_false] at hx
 rcases hx with rfl|rfl<;>rfl
theorem of_row:(Tryz.prog.info? 105).map (fun i=>(i.zero,i.size,i.bytes))=some (some (.agg #[.int .i64 0,.int .i64 0,.int .i64 0,.slice none 0 0]),4,48):=by kernel_rfl
theorem ca_row:(Tryz.prog.info? 124).map (fun i=>(i.zero,i.size,i.bytes))=some (some (.agg #[.int .i64 0,.int .i64 0]),2,16):=by kernel_rfl
def cas (l:List (Of Op)):List Qb.Ca:=l.map fun o=>((o.nr:Int),(o.last:Int))
theorem ca_flat: ∀(l:List (Of Op)) (vs:List Value),vs.length=l.length→flat caE l vs=caCells (cas l)
 | [],[],_=>rfl
 |o::l,u::vs,h=>by
  have ih:=ca_flat l vs (by simpa using h)
  unfold flat at ih⊢
  rw[List.zipWith_cons_cons,List.flatten_cons,ih]
  rfl
theorem ca_rd {c:Lb}{lo:Nat}{W:World}{v:Value}{l:List (Of Op)}(h:SlR caE c lo W v l):Rd W 2 v (cas l).length (caCells (cas l)):=by
 obtain⟨⟨vs,h1,h2⟩,_⟩:=h
 rw[ca_flat l vs h1.1] at h2
 rw[show(cas l).length=l.length from List.length_map _]
 exact h2
theorem bestO_mem: ∀(l:List (Of Op)) (b:Of Op),bestO l=some b→b∈l:=by
 intro l
 induction l with
 |nil=>intro b h;cases h
 |cons a l ih=>
  intro b h
  unfold bestO at h
  cases hb:bestO l with
  |none=>
   rw[hb] at h
   cases h
   exact List.mem_cons_self
  |some x=>
   rw[hb] at h
   by_cases hx:betterO x a=true
   ·simp only[hx,if_true] at h
    cases h
    exact List.mem_cons_of_mem _ (ih _ hb)
   ·simp only[hx] at h
    cases h
    exact List.mem_cons_self
theorem bestO_at: ∀(l:List (Of Op)) (k:Nat) (o:Of Op),l[k]?=some o→(∀(i:Nat) x,l[i]?=some x→betterO x o=false)→(∀(i:Nat) x,i<k→l[i]?=some x→betterO o x=true)→bestO l=some o:=by
 intro l
 induction l with
 |nil=>intro k o h;simp at h
 |cons a l ih=>
  intro k o h h1 h2
  unfold bestO
  cases k with
  |zero=>
   rw[List.getElem?_cons_zero] at h
   cases h
   cases hb:bestO l with
   |none=>rfl
   |some b=>
    obtain⟨i,hi⟩:=List.getElem?_of_mem (bestO_mem l b hb)
    have h3:=h1 (i+1) b (by rw[List.getElem?_cons_succ];exact hi)
    simp only[h3]
    rfl
  |succ k=>
   rw[List.getElem?_cons_succ] at h
   rw[ih k o h (fun i x hx=>h1 (i+1) x (by rw[List.getElem?_cons_succ];exact hx)) fun i x hi hx=>h2 (i+1) x Z11 (by rw[List.getElem?_cons_succ];exact hx)]
   have h3:=h2 0 a Z11 rfl
   simp only[h3,if_true]
theorem cas_at (l:List (Of Op))(i:Nat)(x:Of Op)(h:l[i]?=some x):(cas l).getD i (0,0)=((x.nr:Int),(x.last:Int)):=by
 unfold cas
 rw[List.getD_eq_getElem?_getD,List.getElem?_map,h]
 rfl
theorem best_cas (l:List (Of Op))(h:0<l.length): ∃k o,Qb.best (cas l) l.length=some k∧l[k]?=some o∧bestO l=some o:=by
 cases hb:Qb.best (cas l) l.length with
 |none=>have:=Qb.best_none _ _ hb;omega
 |some k=>
  have hk:=Qb.best_lt _ _ _ hb
  obtain⟨h1,h2⟩:=Qb.best_is _ _ _ hb
  obtain⟨o,ho⟩: ∃o,l[k]?=some o:=⟨_,List.getElem?_eq_getElem hk⟩
  have e1:=cas_at l k o ho
  refine⟨k,o,rfl,ho,bestO_at l k o ho (fun i x hx=> ?_) fun i x hi hx=> ?_⟩
  ·have h3:=h1 i (List.getElem?_eq_some_iff.1 hx).1
   rw[e1,cas_at l i x hx] at h3
   unfold Qb.bt at h3
   unfold betterO
   simp only[Bool.or_eq_false_iff,Bool.and_eq_false_iff,decide_eq_false_iff_not]
   simp only at h3
   omega
  ·have h3:=h2 i hi
   rw[e1,cas_at l i x hx] at h3
   unfold Qb.bt at h3
   unfold betterO
   simp only[Bool.or_eq_true,Bool.and_eq_true,decide_eq_true_eq]
   simp only at h3
   omega
theorem last_any (o:Of Op)(ua:Option Addr)(uc:Nat)(w:World)(ha:o.ao≤4*TM)(hl:o.ops.length≤1048576):
 Calls Tryz.prog 89 #[.agg #[.int .i64 (o.nr:Int),.int .i64 (o.ao:Int),.int .i64 (o.cm:Int),.slice ua o.ops.length uc]] w fun e w'=>e= .returned (.int .i64 (o.last:Int))∧Below w.heap.size w w':=by
 have hTM:TM=1099511627776:=rfl
 obtain⟨L,hL⟩: ∃L,L=o.last:=⟨_,rfl⟩
 have hw:IntKind.i64.wrap ((o.ao:Int)+(o.ops.length:Int))=(L:Int):=by rw[IntWalk.i64_in _ Z11,hL];rfl
 rw[←hL]
 clear hL hTM
 go_enter Tryz.func89,Tryz.ntmps89
 go_wp2_with fail
 go_ret
 exact⟨rfl,(Below.refl _ _).alloc (Nat.le_refl _) _⟩
end Go.Proofs.YtdmjegelcdghlaaGreat.Vw
