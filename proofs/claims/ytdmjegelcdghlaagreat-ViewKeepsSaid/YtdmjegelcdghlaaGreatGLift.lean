/-
  From a walk to a row, for a law: the call returns true, and what lay in memory ahead of the call lies there as it did.
-/
import Derived.Test.YtdmjegelcdghlaaGreatRows
import Derived.ProofKit
import Derived.OpenShut
import Derived.JoinedCond
import Derived.SizedLaws
import Derived.Deep.CondSized
import Derived.Carry
import Derived.Test.YtdmjegelcdghlaaGreatGGen
import Derived.Lib.SmallJoins
import Derived.Test.YtdmjegelcdghlaaGreatGKn
import Derived.Test.YtdmjegelcdghlaaGreatGLb
set_option maxRecDepth 100000
set_option maxHeartbeats 64000000
set_option linter.unusedVariables false
set_option linter.unusedSimpArgs false
namespace Go.Proofs.YtdmjegelcdghlaaGreat
open Go.ChangeShapes Go.WideShapes Go.ChangeAt Go.RowKit
theorem Tryz.own:ownKnob Tryz.prog.godebug=none:=by kernel_rfl
theorem Tryz.laidOut:laidOutB Tryz.prog=true:=by kernel_rfl
section
variable {H:Type} {enc:TypeId×Value→H} {P:Program}
theorem trodAll_low (hl:laidOutB P=true){W W':World}(hb:Below W.heap.size W W'): ∀(ts:List TypeId) (vs:List Value) (ds:List (DataW H)) (ps:List MemPlace),
 (ts.all fun t=>P.readableRec t&&decide (t<P.types.size))=true→DataW.TrodAll enc P W 0 (fun _=>true) true ts vs ds ps→(∀x∈ps,x.block<W.heap.size)→
 DataW.TrodAll enc P W' 0 (fun b=>decide (b<W.heap.size)) true ts vs ds ps
 | [],vs,ds,ps,_,h,_=>by
  obtain⟨rfl,rfl,rfl⟩:=trodAll_nil h
  exact trodAll_mk0
 |t::ts,vs,ds,ps,ht,h,hlt=>by
  simp only[List.all_cons,Bool.and_eq_true,decide_eq_true_eq] at ht
  obtain⟨v,vs',d,ds',p,q,rfl,rfl,rfl,h1,h2⟩:=trodAll_cons h
  exact trodAll_cons_mk (Below.trod hl ht.1.1 ht.1.2 h1 hb (fun x hx=>hlt x (List.mem_append.2 (.inl hx)))) (trodAll_low hl hb ts vs' ds' q (by simpa using ht.2) h2 (fun x hx=>hlt x (List.mem_append.2 (.inr hx))))
theorem law_post {f:Func}{s:ChangeSpec}{W W':World}{args:Array Value}{ds gs:List (DataW H)}{before:List MemPlace}{tb:TypeId}
 (hW:DataW.Whole enc P f.params.toList s.vars false W args.toList ds gs before) (hl:laidOutB P=true) (hvs:s.vars= [])
 (hread:(f.params.toList.all fun t=>P.readableRec t&&decide (t<P.types.size))=true) (hrt:f.resultTypes= #[tb]) (htb:P.underlying tb=some .bool)
 (hspec:s.fn H (ds++gs)= {results:= [.lit (.bool true)],args:=ds}) (hb:Below W.heap.size W W'):s.post enc P f false true false false W args (.bool true) W':=by
 have hlt: ∀p∈before,p.block<W.heap.size:=fun p hp=>hW.lt p hp
 obtain⟨p,q,hA,hV,hpq,hfz,hnd⟩:=hW
 rw[hvs] at hV
 obtain⟨rfl,rfl⟩:=trodVars_none hV
 have hp:before=p:=by rw[hpq];simp
 subst hp
 have hA':=trodAll_low hl hb _ _ _ _ hread hA hlt
 have hW':DataW.Whole enc P f.params.toList s.vars false W args.toList ds [] before:=⟨before,[],hA,by rw[hvs];exact hV,Z93,hfz,hnd⟩
 refine⟨ds,[],before,[],before,[],hW',?_,?_,?_,World.keptBut_mono (fun x hx=>⟨hx,.inr (by simpa using hx)⟩) (hb.frame (· ∈before)),fun h=>by cases h⟩
 ·rw[hspec,hrt]
  exact trodAll_cons_mk (shut_bool htb true) trodAll_mk0
 ·rw[hspec];exact hA'
 ·rw[hspec,hvs];exact hV
end
end Go.Proofs.YtdmjegelcdghlaaGreat
namespace Go.Proofs.YtdmjegelcdghlaaGreat.Vw
open Go.ChangeShapes Go.WideShapes Go.ChangeAt Go.RowKit Go.ChangeMaps
theorem weights_all {H:Type}{P:Program}{e:TypeId}: ∀ {l:List (DataW H)} {d:DataW H} {n:Nat},d∈l→n∈d.weights P e→n∈DataW.weightsAll P e l
 |x::r,d,n,hd,hn=>by
  simp only[DataW.weightsAll,List.mem_append]
  rcases List.mem_cons.1 hd with rfl|hd
  ·exact .inl hn
  ·exact .inr (weights_all hd hn)
theorem flat_inv {α:Type}{E:Ek α}(hE:E.Ok){l:List α}{vs:List Value}(h:vs.length=l.length){j:Nat}{x:Value}(hx:(flat E l vs)[j]?=some x):
 ∃i k a u,j=i*E.sz+k∧l[i]?=some a∧vs[i]?=some u∧(E.cel a u)[k]?=some x:=by
 have hj:j<l.length*E.sz:=by
  have:=(List.getElem?_eq_some_iff.1 hx).1
  rwa[flat_len hE l vs h] at this
 have hi:j/E.sz<l.length:=(Nat.div_lt_iff_lt_mul hE.pos).2 hj
 have hk:j % E.sz<E.sz:=Nat.mod_lt _ hE.pos
 obtain⟨a,ha⟩: ∃a,l[j/E.sz]?=some a:=⟨_,List.getElem?_eq_getElem hi⟩
 obtain⟨u,hu⟩: ∃u,vs[j/E.sz]?=some u:=⟨_,List.getElem?_eq_getElem Z11⟩
 obtain⟨y,hy⟩: ∃y,(E.cel a u)[j % E.sz]?=some y:=⟨_,List.getElem?_eq_getElem (by rw[hE.len];exact hk)⟩
 have h1:=flat_get hE h ha hu hy
 have h2:j/E.sz*E.sz+j % E.sz=j:=by rw[Nat.mul_comm];exact Nat.div_add_mod j E.sz
 rw[h2,hx] at h1
 cases h1
 exact⟨_,_,a,u,h2.symm,ha,hu,hy⟩
section
variable {H:Type} {enc:TypeId×Value→H} {P:Program} {w:World} {held:Bool}
theorem open_rows {α:Type}[Inhabited α]{E:Ek α}(hE:E.Ok){t:TypeId}{sz:Nat}(ht:P.underlying t=some (.slice E.ty))(hC:P.cellsOf E.ty=E.sz)(hB:P.bytesOf E.ty=sz){lo:Nat}
 (hel: ∀n cs y,DataW.trod enc P w 0 (fun _=>true) held n E.ty cs=some y→(∀m∈y.1.weights P E.ty,m≤reachBytes)→ ∃a u,cs=E.cel a u∧E.inn (fun _=>lo) w u a) {fuel:Nat} {v:Value} {x:DataW H×List MemPlace}
 (h:DataW.trod enc P w 0 (fun _=>true) held fuel t [v]=some x) (hw: ∀m∈x.1.weights P t,m≤reachBytes):
 ∃l:List α,SlR E (fun _=>lo) lo w v l∧l.length*sz≤reachBytes:=by
 rcases DataW.trod_slice ht h with⟨hcs,hx⟩|⟨a,len,cap,elems,rest,n,_,hcs,hx,_,hlc,hcm,hlen,hel2,_,_⟩
 ·simp only[List.cons.injEq,and_true] at hcs
  subst hcs
  exact⟨[],SlR.nil _ _ _ _,Z93⟩
 ·simp only[List.cons.injEq,and_true] at hcs
  subst hcs
  have hxw: ∀i (hi:i<elems.length),∀m∈elems[i].1.weights P E.ty,m≤reachBytes:=fun i hi m hm=>hw m (by
   rw[hx]
   simp only[DataW.weights,ht]
   refine List.mem_cons_of_mem _ (List.mem_append.2 (.inl (weights_all (d:=elems[i].1) ?_ hm)))
   exact List.mem_map.2 ⟨elems[i],List.getElem_mem _,rfl⟩)
  have hsz:len*sz≤reachBytes:=by
   have h1:=hw ((elems.length+rest.length)*P.bytesOf E.ty) (by
    rw[hx]
    simp[DataW.weights,ht])
   rw[hB] at h1
   exact Nat.le_trans (Nat.mul_le_mul_right _ Z11) h1
  have hat: ∀i,i<len→ ∃y:α×Value,(∀(j:Nat) (u:Value),(E.cel y.1 y.2)[j]?=some u→w.cell? ((a.add (i*E.sz)).add j)=some u)∧E.inn (fun _=>lo) w y.2 y.1:=fun i hi=>by
   have h1:=hel2 i hi
   rw[hC] at h1
   have h2:elems[i]?=some elems[i]:=List.getElem?_eq_getElem Z11
   rw[h2] at h1
   obtain⟨cs,hc1,hc2⟩:=Option.bind_eq_some_iff.1 h1
   obtain⟨_,hl,hcc⟩:=World.cells?_some hc1
   obtain⟨b,u,hX,hS⟩:=hel n cs _ hc2 (hxw i Z11)
   refine⟨(b,u),fun j u' hj=> ?_,hS⟩
   have hj5:j<E.sz:=by have:=(List.getElem?_eq_some_iff.1 hj).1;rwa[hE.len] at this
   rw[hcc j hj5,hX,hj]
  obtain⟨Y,hY⟩:=Deep.choose_lt hat
  rcases Nat.eq_zero_or_pos len with h0|h0
  ·subst h0
   exact⟨[],⟨⟨[],Inn.nil _ _ _,⟨by simp[flat],.inl ⟨⟨_,_,rfl⟩,rfl⟩⟩⟩,fun h1=>absurd h1 Z93⟩,Z93⟩
  ·obtain⟨b,off,spot⟩:=a
   have hc0: ∃u,w.cell? ((Addr.add ⟨b,off,spot⟩ (0*E.sz)).add 0)=some u:=by
    have hp:0<(E.cel (Y 0).1 (Y 0).2).length:=by rw[hE.len];exact hE.pos
    exact⟨_,(hY 0 h0).1 0 _ (List.getElem?_eq_getElem hp)⟩
   obtain⟨u0,hc0⟩:=hc0
   obtain rfl:spot=none:=by simpa[Addr.add] using World.cell?_spot hc0
   have hll:((List.range len).map fun i=>(Y i).1).length=len:=by simp
   have hvl:((List.range len).map fun i=>(Y i).2).length=((List.range len).map fun i=>(Y i).1).length:=by simp
   have hget: ∀ {β:Type} (f:Nat→β) {i:Nat} {y:β},((List.range len).map f)[i]?=some y→i<len∧y=f i:=fun f i y hy=>by
    have hi:i<len:=by have:=(List.getElem?_eq_some_iff.1 hy).1;simpa using this
    rw[List.getElem?_map,List.getElem?_range hi] at hy
    exact⟨hi,(Option.some.inj hy).symm⟩
   refine⟨(List.range len).map fun i=>(Y i).1,⟨⟨(List.range len).map fun i=>(Y i).2,⟨hvl,fun i a u h1 h2=> ?_⟩,⟨flat_len hE _ _ hvl,.inr ⟨b,off,cap,by rw[hll],by rw[hll];exact hlc,fun j u hj=> ?_⟩⟩⟩,fun _ g hg=>rfl⟩,by rw[hll];exact hsz⟩
   ·obtain⟨hi,rfl⟩:=hget _ h1
    obtain⟨_,rfl⟩:=hget _ h2
    exact(hY i hi).2
   ·obtain⟨i,k,a,u',rfl,ha,hu,hk⟩:=flat_inv hE hvl hj
    obtain⟨hi,rfl⟩:=hget _ ha
    obtain⟨_,rfl⟩:=hget _ hu
    have:=(hY i hi).1 k u hk
    simp only[Addr.add_lit] at this
    rw[←Nat.add_assoc]
    exact this
end
section
variable {H:Type} {enc:TypeId×Value→H} {w:World} {held:Bool}
def stE:Ek (List UInt8):=⟨1,9,fun s _=> [sv s],fun _ _ _ s=>s.length≤9223372036854775807,fun _=>False⟩
theorem stE_ok:stE.Ok:=⟨Z37,fun _ _=>rfl,fun c W a u _ x hx=>by
 have:x=sv a:=by simpa[stE] using hx
 subst this;rfl,fun _ _ _ _ _ _ h _ _=>h⟩
theorem flat_st (l:List (List UInt8)): ∀vs:List Value,vs.length=l.length→flat stE l vs=l.map sv:=by
 induction l with
 |nil=>intro vs _;rfl
 |cons x l ih=>
  intro vs h
  match vs,h with
  |v::vs,h=>
   have h1:=ih vs (by simpa using h)
   unfold flat at h1⊢
   rw[List.zipWith_cons_cons,List.flatten_cons,h1]
   rfl
theorem open_scope {n:Nat}{c:Value}{y:DataW H×List MemPlace}(h:DataW.trod enc Tryz.prog w 0 (fun _=>true) held n 22 [c]=some y)(hw: ∀m∈y.1.weights Tryz.prog 22,m≤reachBytes):
 ∃l:List (List UInt8),RdS w c l∧l.length≤8796093022208:=by
 obtain⟨l,hs,hl⟩:=open_rows (lo:=300) stE_ok Tryz.underlying22 Z27 (sz:=16) Z27 (fun n cs y hy hwy=>by
  obtain⟨xs,rfl⟩: ∃c,cs= [c]:=by
   obtain⟨s,e,_⟩:=DataW.trod_string Tryz.underlying9 hy
   exact⟨_,e⟩
  obtain⟨s,e,_,hs⟩:=DataW.trod_string Tryz.underlying9 hy
  simp only[List.cons.injEq,and_true] at e
  subst e
  refine⟨s.data.toList,undef,by unfold stE sv;simp only[←st_mk],?_⟩
  unfold maxLen at hs
  show s.data.toList.length≤_
  simpa using hs) h hw
 obtain⟨vs,h1,h2⟩:=hs.ex
 rw[flat_st l vs h1.1] at h2
 refine⟨l,⟨h2,fun x hx=> ?_⟩,?_⟩
 ·obtain⟨i,hi,rfl⟩:=List.getElem_of_mem hx
  exact h1.2 i _ (vs[i]'(by rw[h1.1];exact hi)) (List.getElem?_eq_getElem hi) (List.getElem?_eq_getElem (by rw[h1.1];exact hi))
 ·have hR:reachBytes=140737488351232:=rfl
  omega
theorem cmd_of {n:Nat}{cs:List Value}{y:DataW H×List MemPlace}(h:DataW.trod enc Tryz.prog w 0 (fun _=>true) held n 24 cs=some y)(hw: ∀m∈y.1.weights Tryz.prog 24,m≤reachBytes):
 ∃(c:Gr.Cm) (u:Value),cs= [.int .i64 c.kd,.string ⟨c.fam.toArray⟩,.int .i64 c.ser,.int .i64 c.tok,.string ⟨c.cli.toArray⟩,.string ⟨c.usr.toArray⟩,u,.string ⟨c.red.toArray⟩,.string ⟨c.cha.toArray⟩,.string ⟨c.met.toArray⟩,.string ⟨c.ver.toArray⟩,.bool c.rf,.int .i64 c.edg]∧RdS w u c.sco∧CmS c∧c.sco.length≤8796093022208:=by
 obtain⟨xs,n',_,hx,hl,hlen,hff⟩:=DataW.trod_struct Tryz.underlying24 h
 have hlN:cs.length=13:=hl.trans Z27
 obtain⟨c0,c1,c2,c3,c4,c5,c6,c7,c8,c9,c10,c11,c12,rfl⟩: ∃c0 c1 c2 c3 c4 c5 c6 c7 c8 c9 c10 c11 c12,cs= [c0,c1,c2,c3,c4,c5,c6,c7,c8,c9,c10,c11,c12]:=by
  match cs,hlN with
  | [c0,c1,c2,c3,c4,c5,c6,c7,c8,c9,c10,c11,c12],_=>exact⟨c0,c1,c2,c3,c4,c5,c6,c7,c8,c9,c10,c11,c12,rfl⟩
 obtain⟨y0,y1,y2,y3,y4,y5,y6,y7,y8,y9,y10,y11,y12,rfl⟩: ∃y0 y1 y2 y3 y4 y5 y6 y7 y8 y9 y10 y11 y12,xs= [y0,y1,y2,y3,y4,y5,y6,y7,y8,y9,y10,y11,y12]:=by
  match xs,hlen with
  | [y0,y1,y2,y3,y4,y5,y6,y7,y8,y9,y10,y11,y12],_=>exact⟨y0,y1,y2,y3,y4,y5,y6,y7,y8,y9,y10,y11,y12,rfl⟩
 have g0:DataW.trod enc Tryz.prog w 0 (fun _=>true) held n' 3 [c0]=some y0:=by have h:=hff 0 _ rfl;exact h
 have g1:DataW.trod enc Tryz.prog w 0 (fun _=>true) held n' 9 [c1]=some y1:=by have h:=hff 1 _ rfl;exact h
 have g2:DataW.trod enc Tryz.prog w 0 (fun _=>true) held n' 3 [c2]=some y2:=by have h:=hff 2 _ rfl;exact h
 have g3:DataW.trod enc Tryz.prog w 0 (fun _=>true) held n' 3 [c3]=some y3:=by have h:=hff 3 _ rfl;exact h
 have g4:DataW.trod enc Tryz.prog w 0 (fun _=>true) held n' 9 [c4]=some y4:=by have h:=hff 4 _ rfl;exact h
 have g5:DataW.trod enc Tryz.prog w 0 (fun _=>true) held n' 9 [c5]=some y5:=by have h:=hff 5 _ rfl;exact h
 have g6:DataW.trod enc Tryz.prog w 0 (fun _=>true) held n' 22 [c6]=some y6:=by have h:=hff 6 _ rfl;exact h
 have g7:DataW.trod enc Tryz.prog w 0 (fun _=>true) held n' 9 [c7]=some y7:=by have h:=hff 7 _ rfl;exact h
 have g8:DataW.trod enc Tryz.prog w 0 (fun _=>true) held n' 9 [c8]=some y8:=by have h:=hff 8 _ rfl;exact h
 have g9:DataW.trod enc Tryz.prog w 0 (fun _=>true) held n' 9 [c9]=some y9:=by have h:=hff 9 _ rfl;exact h
 have g10:DataW.trod enc Tryz.prog w 0 (fun _=>true) held n' 9 [c10]=some y10:=by have h:=hff 10 _ rfl;exact h
 have g11:DataW.trod enc Tryz.prog w 0 (fun _=>true) held n' 4 [c11]=some y11:=by have h:=hff 11 _ rfl;exact h
 have g12:DataW.trod enc Tryz.prog w 0 (fun _=>true) held n' 3 [c12]=some y12:=by have h:=hff 12 _ rfl;exact h
 have hu:=Tryz.underlying24
 subst hx
 have hwe: ∀(j:Nat) (t:TypeId) (d:DataW H),[3,9,3,3,9,9,22,9,9,9,9,4,3][j]?=some t→ [y0.1,y1.1,y2.1,y3.1,y4.1,y5.1,y6.1,y7.1,y8.1,y9.1,y10.1,y11.1,y12.1][j]?=some d→ ∀m∈d.weights Tryz.prog t,m≤reachBytes:=fun j t d ht hd m hm=>hw m (by
  simp only[DataW.weights,hu]
  exact DataW.weights_mem_each (j:=j) (t:=t) (d:=d) ht hd m hm)
 obtain⟨v0,e0,_⟩:=DataW.trod_int Tryz.underlying3 g0
 obtain⟨v1,e1,x1,_⟩:=DataW.trod_string Tryz.underlying9 g1
 obtain⟨v2,e2,_⟩:=DataW.trod_int Tryz.underlying3 g2
 obtain⟨v3,e3,_⟩:=DataW.trod_int Tryz.underlying3 g3
 obtain⟨v4,e4,x4,_⟩:=DataW.trod_string Tryz.underlying9 g4
 obtain⟨v5,e5,x5,_⟩:=DataW.trod_string Tryz.underlying9 g5
 obtain⟨l6,r6,z6⟩:=open_scope g6 (hwe 6 _ _ rfl rfl)
 obtain⟨v7,e7,x7,_⟩:=DataW.trod_string Tryz.underlying9 g7
 obtain⟨v8,e8,x8,_⟩:=DataW.trod_string Tryz.underlying9 g8
 obtain⟨v9,e9,x9,_⟩:=DataW.trod_string Tryz.underlying9 g9
 obtain⟨v10,e10,x10,_⟩:=DataW.trod_string Tryz.underlying9 g10
 obtain⟨v11,e11,_⟩:=DataW.trod_bool Tryz.underlying4 g11
 obtain⟨v12,e12,_⟩:=DataW.trod_int Tryz.underlying3 g12
 simp only[List.cons.injEq,and_true] at e0 e1 e2 e3 e4 e5 e7 e8 e9 e10 e11 e12
 subst e0 e1 e2 e3 e4 e5 e7 e8 e9 e10 e11 e12
 have b1:v1.data.toList.length≤reachBytes:=hwe 1 _ _ rfl rfl _ (by
  rw[x1]
  simp[DataW.weights])
 have b4:v4.data.toList.length≤reachBytes:=hwe 4 _ _ rfl rfl _ (by
  rw[x4]
  simp[DataW.weights])
 have b5:v5.data.toList.length≤reachBytes:=hwe 5 _ _ rfl rfl _ (by
  rw[x5]
  simp[DataW.weights])
 have b7:v7.data.toList.length≤reachBytes:=hwe 7 _ _ rfl rfl _ (by
  rw[x7]
  simp[DataW.weights])
 have b8:v8.data.toList.length≤reachBytes:=hwe 8 _ _ rfl rfl _ (by
  rw[x8]
  simp[DataW.weights])
 have b9:v9.data.toList.length≤reachBytes:=hwe 9 _ _ rfl rfl _ (by
  rw[x9]
  simp[DataW.weights])
 have b10:v10.data.toList.length≤reachBytes:=hwe 10 _ _ rfl rfl _ (by
  rw[x10]
  simp[DataW.weights])
 have hR:reachBytes=140737488351232:=rfl
 refine⟨⟨v0,v1.data.toList,v2,v3,v4.data.toList,v5.data.toList,l6,v7.data.toList,v8.data.toList,v9.data.toList,v10.data.toList,v11,v12⟩,c6,by simp only[←st_mk],r6,?_,z6⟩
 exact⟨by show v1.data.toList.length≤_;omega,by show v4.data.toList.length≤_;omega,by show v5.data.toList.length≤_;omega,by show v7.data.toList.length≤_;omega,by show v8.data.toList.length≤_;omega,by show v9.data.toList.length≤_;omega,by show v10.data.toList.length≤_;omega,by show 0≤_;omega⟩
theorem op_of {n:Nat}{cs:List Value}{y:DataW H×List MemPlace}(h:DataW.trod enc Tryz.prog w 0 (fun _=>true) held n 26 cs=some y)(hw: ∀m∈y.1.weights Tryz.prog 26,m≤reachBytes):
 ∃(o:Op) (u:Value),cs=opC o u∧TxW 300 (fun _=>300) w u o∧CmS o.c:=by
 obtain⟨xs,n',_,hx,hl,hlen,hff⟩:=DataW.trod_struct Tryz.underlying26 h
 have hlN:cs.length=16:=hl.trans Z27
 obtain⟨c0,c1,c2,c3,c4,c5,c6,c7,c8,c9,c10,c11,c12,c13,c14,c15,rfl⟩: ∃c0 c1 c2 c3 c4 c5 c6 c7 c8 c9 c10 c11 c12 c13 c14 c15,cs= [c0,c1,c2,c3,c4,c5,c6,c7,c8,c9,c10,c11,c12,c13,c14,c15]:=by
  match cs,hlN with
  | [c0,c1,c2,c3,c4,c5,c6,c7,c8,c9,c10,c11,c12,c13,c14,c15],_=>exact⟨c0,c1,c2,c3,c4,c5,c6,c7,c8,c9,c10,c11,c12,c13,c14,c15,rfl⟩
 obtain⟨y0,y1,y2,y3,rfl⟩: ∃y0 y1 y2 y3,xs= [y0,y1,y2,y3]:=by
  match xs,hlen with
  | [y0,y1,y2,y3],_=>exact⟨y0,y1,y2,y3,rfl⟩
 have g0:DataW.trod enc Tryz.prog w 0 (fun _=>true) held n' 3 [c0]=some y0:=by have h:=hff 0 _ rfl;exact h
 have g1:DataW.trod enc Tryz.prog w 0 (fun _=>true) held n' 3 [c1]=some y1:=by have h:=hff 1 _ rfl;exact h
 have g2:DataW.trod enc Tryz.prog w 0 (fun _=>true) held n' 3 [c2]=some y2:=by have h:=hff 2 _ rfl;exact h
 have g3:DataW.trod enc Tryz.prog w 0 (fun _=>true) held n' 24 [c3,c4,c5,c6,c7,c8,c9,c10,c11,c12,c13,c14,c15]=some y3:=by have h:=hff 3 _ rfl;exact h
 have hu:=Tryz.underlying26
 subst hx
 have hwe: ∀(j:Nat) (t:TypeId) (d:DataW H),[3,3,3,24][j]?=some t→ [y0.1,y1.1,y2.1,y3.1][j]?=some d→ ∀m∈d.weights Tryz.prog t,m≤reachBytes:=fun j t d ht hd m hm=>hw m (by
  simp only[DataW.weights,hu]
  exact DataW.weights_mem_each (j:=j) (t:=t) (d:=d) ht hd m hm)
 obtain⟨v0,e0,_⟩:=DataW.trod_int Tryz.underlying3 g0
 obtain⟨v1,e1,_⟩:=DataW.trod_int Tryz.underlying3 g1
 obtain⟨v2,e2,_⟩:=DataW.trod_int Tryz.underlying3 g2
 obtain⟨c,u,ec,r,hc,hs⟩:=cmd_of g3 (hwe 3 _ _ rfl rfl)
 simp only[List.cons.injEq,and_true] at e0 e1 e2 ec
 obtain⟨rfl,rfl,rfl,rfl,rfl,rfl,rfl,rfl,rfl,rfl,rfl,rfl,rfl⟩:=ec
 subst e0 e1 e2
 exact⟨⟨v0,v1,v2,c⟩,_,rfl,⟨r,fun _ _ _=>rfl,hs⟩,hc⟩
instance:Inhabited Op:=⟨noO⟩
theorem msg_of {n:Nat}{cs:List Value}{y:DataW H×List MemPlace}(h:DataW.trod enc Tryz.prog w 0 (fun _=>true) held n 37 cs=some y)(hw: ∀m∈y.1.weights Tryz.prog 37,m≤reachBytes):
 ∃(m:Mz) (u:Value),cs= [.int .i64 m.kd,.int .i64 m.fr,.int .i64 m.vw,.int .i64 m.nr,.int .i64 m.ao,u,.int .i64 m.cm,.int .i64 m.sb,.int .i64 m.ls]∧SlR (opW 300) (fun _=>300) 300 w u m.ops∧(∀x∈m.ops,CmS x.c)∧m.ops.length≤4611686018427387904:=by
 obtain⟨xs,n',_,hx,hl,hlen,hff⟩:=DataW.trod_struct Tryz.underlying37 h
 have hlN:cs.length=9:=hl.trans Z27
 obtain⟨c0,c1,c2,c3,c4,c5,c6,c7,c8,rfl⟩: ∃c0 c1 c2 c3 c4 c5 c6 c7 c8,cs= [c0,c1,c2,c3,c4,c5,c6,c7,c8]:=by
  match cs,hlN with
  | [c0,c1,c2,c3,c4,c5,c6,c7,c8],_=>exact⟨c0,c1,c2,c3,c4,c5,c6,c7,c8,rfl⟩
 obtain⟨y0,y1,y2,y3,y4,y5,y6,y7,y8,rfl⟩: ∃y0 y1 y2 y3 y4 y5 y6 y7 y8,xs= [y0,y1,y2,y3,y4,y5,y6,y7,y8]:=by
  match xs,hlen with
  | [y0,y1,y2,y3,y4,y5,y6,y7,y8],_=>exact⟨y0,y1,y2,y3,y4,y5,y6,y7,y8,rfl⟩
 have g0:DataW.trod enc Tryz.prog w 0 (fun _=>true) held n' 3 [c0]=some y0:=by have h:=hff 0 _ rfl;exact h
 have g1:DataW.trod enc Tryz.prog w 0 (fun _=>true) held n' 3 [c1]=some y1:=by have h:=hff 1 _ rfl;exact h
 have g2:DataW.trod enc Tryz.prog w 0 (fun _=>true) held n' 3 [c2]=some y2:=by have h:=hff 2 _ rfl;exact h
 have g3:DataW.trod enc Tryz.prog w 0 (fun _=>true) held n' 3 [c3]=some y3:=by have h:=hff 3 _ rfl;exact h
 have g4:DataW.trod enc Tryz.prog w 0 (fun _=>true) held n' 3 [c4]=some y4:=by have h:=hff 4 _ rfl;exact h
 have g5:DataW.trod enc Tryz.prog w 0 (fun _=>true) held n' 35 [c5]=some y5:=by have h:=hff 5 _ rfl;exact h
 have g6:DataW.trod enc Tryz.prog w 0 (fun _=>true) held n' 3 [c6]=some y6:=by have h:=hff 6 _ rfl;exact h
 have g7:DataW.trod enc Tryz.prog w 0 (fun _=>true) held n' 3 [c7]=some y7:=by have h:=hff 7 _ rfl;exact h
 have g8:DataW.trod enc Tryz.prog w 0 (fun _=>true) held n' 3 [c8]=some y8:=by have h:=hff 8 _ rfl;exact h
 have hu:=Tryz.underlying37
 subst hx
 have hwe: ∀(j:Nat) (t:TypeId) (d:DataW H),[3,3,3,3,3,35,3,3,3][j]?=some t→ [y0.1,y1.1,y2.1,y3.1,y4.1,y5.1,y6.1,y7.1,y8.1][j]?=some d→ ∀m∈d.weights Tryz.prog t,m≤reachBytes:=fun j t d ht hd m hm=>hw m (by
  simp only[DataW.weights,hu]
  exact DataW.weights_mem_each (j:=j) (t:=t) (d:=d) ht hd m hm)
 obtain⟨v0,e0,_⟩:=DataW.trod_int Tryz.underlying3 g0
 obtain⟨v1,e1,_⟩:=DataW.trod_int Tryz.underlying3 g1
 obtain⟨v2,e2,_⟩:=DataW.trod_int Tryz.underlying3 g2
 obtain⟨v3,e3,_⟩:=DataW.trod_int Tryz.underlying3 g3
 obtain⟨v4,e4,_⟩:=DataW.trod_int Tryz.underlying3 g4
 obtain⟨v6,e6,_⟩:=DataW.trod_int Tryz.underlying3 g6
 obtain⟨v7,e7,_⟩:=DataW.trod_int Tryz.underlying3 g7
 obtain⟨v8,e8,_⟩:=DataW.trod_int Tryz.underlying3 g8
 obtain⟨l5,r5,z5⟩:=open_rows (E:=opX 300) (lo:=300) (opX_ok 300) Tryz.underlying35 Z27 (sz:=200) Z27 (fun n cs y hy hwy=>by
  obtain⟨o,u,e,h1,h2⟩:=op_of hy hwy
  exact⟨o,u,e,h1,h2⟩) g5 (hwe 5 _ _ rfl rfl)
 simp only[List.cons.injEq,and_true] at e0 e1 e2 e3 e4 e6 e7 e8
 subst e0 e1 e2 e3 e4 e6 e7 e8
 have hR:reachBytes=140737488351232:=rfl
 exact⟨⟨v0,v1,v2,v3,v4,l5,v6,v7,v8⟩,c5,rfl,r5.wide,r5.texts,by show l5.length≤_;omega⟩
theorem event_of {n:Nat}{cs:List Value}{y:DataW H×List MemPlace}(h:DataW.trod enc Tryz.prog w 0 (fun _=>true) held n 62 cs=some y)(hw: ∀m∈y.1.weights Tryz.prog 62,m≤reachBytes):
 ∃x:Ev,cs=evC x∧EvA (fun _=>300) w x:=by
 obtain⟨xs,n',_,hx,hl,hlen,hff⟩:=DataW.trod_struct Tryz.underlying62 h
 have hlN:cs.length=28:=hl.trans Z27
 obtain⟨c0,c1,c2,c3,c4,c5,c6,c7,c8,c9,c10,c11,c12,c13,c14,c15,c16,c17,c18,c19,c20,c21,c22,c23,c24,c25,c26,c27,rfl⟩: ∃c0 c1 c2 c3 c4 c5 c6 c7 c8 c9 c10 c11 c12 c13 c14 c15 c16 c17 c18 c19 c20 c21 c22 c23 c24 c25 c26 c27,cs= [c0,c1,c2,c3,c4,c5,c6,c7,c8,c9,c10,c11,c12,c13,c14,c15,c16,c17,c18,c19,c20,c21,c22,c23,c24,c25,c26,c27]:=by
  match cs,hlN with
  | [c0,c1,c2,c3,c4,c5,c6,c7,c8,c9,c10,c11,c12,c13,c14,c15,c16,c17,c18,c19,c20,c21,c22,c23,c24,c25,c26,c27],_=>exact⟨c0,c1,c2,c3,c4,c5,c6,c7,c8,c9,c10,c11,c12,c13,c14,c15,c16,c17,c18,c19,c20,c21,c22,c23,c24,c25,c26,c27,rfl⟩
 obtain⟨y0,y1,y2,y3,y4,rfl⟩: ∃y0 y1 y2 y3 y4,xs= [y0,y1,y2,y3,y4]:=by
  match xs,hlen with
  | [y0,y1,y2,y3,y4],_=>exact⟨y0,y1,y2,y3,y4,rfl⟩
 have g0:DataW.trod enc Tryz.prog w 0 (fun _=>true) held n' 3 [c0]=some y0:=by have h:=hff 0 _ rfl;exact h
 have g1:DataW.trod enc Tryz.prog w 0 (fun _=>true) held n' 3 [c1]=some y1:=by have h:=hff 1 _ rfl;exact h
 have g2:DataW.trod enc Tryz.prog w 0 (fun _=>true) held n' 3 [c2]=some y2:=by have h:=hff 2 _ rfl;exact h
 have g3:DataW.trod enc Tryz.prog w 0 (fun _=>true) held n' 26 [c3,c4,c5,c6,c7,c8,c9,c10,c11,c12,c13,c14,c15,c16,c17,c18]=some y3:=by have h:=hff 3 _ rfl;exact h
 have g4:DataW.trod enc Tryz.prog w 0 (fun _=>true) held n' 37 [c19,c20,c21,c22,c23,c24,c25,c26,c27]=some y4:=by have h:=hff 4 _ rfl;exact h
 have hu:=Tryz.underlying62
 subst hx
 have hwe: ∀(j:Nat) (t:TypeId) (d:DataW H),[3,3,3,26,37][j]?=some t→ [y0.1,y1.1,y2.1,y3.1,y4.1][j]?=some d→ ∀m∈d.weights Tryz.prog t,m≤reachBytes:=fun j t d ht hd m hm=>hw m (by
  simp only[DataW.weights,hu]
  exact DataW.weights_mem_each (j:=j) (t:=t) (d:=d) ht hd m hm)
 obtain⟨v0,e0,_⟩:=DataW.trod_int Tryz.underlying3 g0
 obtain⟨v1,e1,_⟩:=DataW.trod_int Tryz.underlying3 g1
 obtain⟨v2,e2,_⟩:=DataW.trod_int Tryz.underlying3 g2
 obtain⟨o,u,eo,ho,hoc⟩:=op_of g3 (hwe 3 _ _ rfl rfl)
 obtain⟨m,mu,em,hm,hmc,hml⟩:=msg_of g4 (hwe 4 _ _ rfl rfl)
 obtain⟨ua,uc,rfl⟩:=ho.rd.1.slice
 obtain⟨ma,mc,rfl⟩:=hm.slice
 unfold opC at eo
 simp only[List.cons.injEq,and_true] at e0 e1 e2 eo em
 obtain⟨rfl,rfl,rfl,rfl,rfl,rfl,rfl,rfl,rfl,rfl,rfl,rfl,rfl,rfl,rfl,rfl⟩:=eo
 obtain⟨rfl,rfl,rfl,rfl,rfl,rfl,rfl,rfl,rfl⟩:=em
 subst e0 e1 e2
 exact⟨⟨v0,v1,v2,o,ua,uc,m,ma,mc⟩,rfl,⟨ho,hoc,hm,hmc,hml⟩⟩
theorem open_evs {W:World}{v:Value}{d:DataW H}{ps:List MemPlace}{r:Reach}{b0:Nat}(hval:Value.okWide Tryz.prog W r b0 56 v)(h:DataW.Trod enc Tryz.prog W 0 (fun _=>true) true 56 v d ps)
 (hw: ∀m∈d.weights Tryz.prog 56,m≤reachBytes): ∃l:List Ev,SlR evE (fun _=>300) 300 W v l∧l.length≤4611686018427387904:=by
 obtain⟨a1,l1,c1,rfl⟩:=okWide_slice Tryz.underlying56 hval
 obtain⟨fuel,hf⟩:=h
 have hf':DataW.trod enc Tryz.prog W 0 (fun _=>true) true fuel 56 [.slice a1 l1 c1]=some (d,ps):=by simpa[Value.cells] using hf
 obtain⟨l,hs,hl⟩:=open_rows (E:=evE) (lo:=300) evE_ok Tryz.underlying56 Z27 (sz:=312) Z27 (fun n cs y hy hwy=>by
  obtain⟨x,e,hx⟩:=event_of hy hwy
  exact⟨x,undef,e,hx⟩) hf' hw
 have hR:reachBytes=140737488351232:=rfl
 exact⟨l,hs,Z11⟩
end
end Go.Proofs.YtdmjegelcdghlaaGreat.Vw
namespace Go.Proofs.YtdmjegelcdghlaaGreat.viewAgrees
open Go.ChangeShapes Go.WideShapes Go.ChangeAt Go.RowKit Go.ChangeMaps
theorem contract (H:Type)(enc:TypeId×Value→H)(W:World)(base:Nat)(args:Array Value)(ds gs:List (DataW H))(before:List MemPlace)
 (hval: ∀(j:Nat) t v,Tryz.f4.params[j]?=some t→args[j]?=some v→Value.okWide Tryz.prog W .any base t v)
 (hW:DataW.Whole enc Tryz.prog Tryz.f4.params.toList Rows.viewAgreesSpec.vars false W args.toList ds gs before)
 (hz:(DataW.weightsEach Tryz.prog (Tryz.f4.params.toList++Rows.viewAgreesSpec.plain.varTypes Tryz.prog) (ds++gs)).all (· ≤reachBytes)=true):
 Calls Tryz.prog 4 args W fun e W'=> ∃v,e= .returned v∧Rows.viewAgreesSpec.post enc Tryz.prog Tryz.f4 false true false false W args v W':=by
 have hW':=hW
 obtain⟨p,q,hA0,hV,rfl,hfz,hnd⟩:=hW
 have hA:DataW.TrodAll enc Tryz.prog W 0 (fun _=>true) true Tryz.f4.params.toList args.toList ds p:=hA0
 rw[Tryz.params4] at hA hval
 obtain⟨v0,vs0,d0,ds0,p0,q0,hargs,rfl,rfl,h0,r0⟩:=trodAll_cons hA
 obtain⟨v1,vs1,d1,ds1,p1,q1,rfl,rfl,rfl,h1,r1⟩:=trodAll_cons r0
 obtain⟨rfl,rfl,rfl⟩:=trodAll_nil r1
 obtain rfl:args= #[v0,v1]:=by cases args;simp_all
 obtain⟨rfl,rfl⟩:=trodVars_none hV
 obtain⟨a0,rfl,rfl,rfl,w0⟩:=open_int Tryz.underlying3 (hval 0 3 v0 rfl rfl) h0
 obtain⟨l1,n1,z1⟩:=Vw.open_evs (hval 1 56 v1 rfl rfl) h1 (fun m hm=>by have:=List.all_eq_true.1 hz _ (DataW.weights_mem_each (j:=1) rfl rfl m hm);simpa using this)
 refine(Vw.viewAgrees_walk a0 v1 l1 W n1 z1).mono fun e W' ⟨he,hb⟩=> ?_
 subst he
 exact⟨_,rfl,law_post (tb:=4) hW' Tryz.laidOut rfl Z27 Z27 Tryz.underlying4 rfl hb⟩
theorem lifted (os:Os)(started:os.Started)(H:Type)(enc:TypeId×Value→H):
 ReturnsInHanded {} Tryz.checked os 4 .any (Rows.viewAgreesSpec.pre6 enc Tryz.prog Tryz.f4 Rows.viewAgreesRow.domain false) (Rows.viewAgreesSpec.post enc Tryz.prog Tryz.f4 false true false false):=by
 refine returnsInHanded_of_change_sized (C:=Tryz.checked) Tryz.own started Z27 Tryz.func4
  (ChangeSpec.witness6 (enc:=enc) (C:=Tryz.checked) false ⟨#[],#[.int .i64 0,.slice none 0 0],[]⟩ 8 Z27 Z27 Z27 Z27) ?_
 intro W base args ds gs before hval hW _ hz _
 exact contract H enc W base args ds gs before hval hW hz
theorem proved:Rows.ViewAgreesSaid:=
 OpenClaim.holds_of_wide 4 Tryz.f4 rfl rfl rfl rfl rfl rfl rfl ⟨rfl,rfl,rfl,rfl,rfl⟩ rfl rfl rfl rfl rfl Z27 Tryz.func4 Z27
  (of_decide_eq_true Z27) (by unfold Func.isWrapper;first|(rw[if_pos (by decide+kernel)];kernel_rfl)|(rw[if_neg (by decide+kernel)];exact⟨rfl,rfl⟩))
  (fun os started H enc _=>lifted os started H enc)
end Go.Proofs.YtdmjegelcdghlaaGreat.viewAgrees
