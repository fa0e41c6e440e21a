/-
  Chapter 22: ops in memory: copies of texts, of ops (slices.Clone, own).
-/
import Derived.Test.YtdmjegelcdghlaaGreatGDc
import Derived.Test.YtdmjegelcdghlaaGreatGRi
import Derived.Test.YtdmjegelcdghlaaGreatGGen
import Derived.Maps.Own
import Derived.Maps.OwnOps
import Derived.Maps.OwnSet
import Derived.Maps.Views
set_option maxRecDepth 100000
set_option maxHeartbeats 64000000
set_option linter.unusedVariables false
set_option linter.unusedSimpArgs false
namespace Go.Proofs.YtdmjegelcdghlaaGreat
theorem Z59 {p:Prop}(h:p:=by
 have hx':o=o→x∈opC u o:=fun _=>hx
 unfold opC at hx'
 have:=hx' rfl
 simp only[List.mem_cons,List.not_mem_nil,or_false] at this
 rcases this with rfl|rfl|rfl|rfl|rfl|rfl|rfl|rfl|rfl|rfl|rfl|rfl|rfl|rfl|rfl|rfl<;>first|rfl|exact hu):p:=h
end Go.Proofs.YtdmjegelcdghlaaGreat
namespace Go.Proofs.YtdmjegelcdghlaaGreat.Vw
open Go.RowKit Go.Maps
structure Op where
 ed:Int
 sq:Int
 lo:Int
 c:Gr.Cm
instance:DecidableEq Gr.Cm:=fun a b=>by
 cases a;cases b
 simp only[Gr.Cm.mk.injEq]
 exact inferInstance
instance:DecidableEq Op:=fun a b=>by
 cases a;cases b
 simp only[Op.mk.injEq]
 exact inferInstance
def opC (o:Op)(u:Value):List Value:= [.int .i64 o.ed,.int .i64 o.sq,.int .i64 o.lo,.int .i64 o.c.kd,.string ⟨o.c.fam.toArray⟩,.int .i64 o.c.ser,.int .i64 o.c.tok,.string ⟨o.c.cli.toArray⟩,.string ⟨o.c.usr.toArray⟩,u,.string ⟨o.c.red.toArray⟩,.string ⟨o.c.cha.toArray⟩,.string ⟨o.c.met.toArray⟩,.string ⟨o.c.ver.toArray⟩,.bool o.c.rf,.int .i64 o.c.edg]
def opV (o:Op)(u:Value):Value:= .agg #[.int .i64 o.ed,.int .i64 o.sq,.int .i64 o.lo,.int .i64 o.c.kd,.string ⟨o.c.fam.toArray⟩,.int .i64 o.c.ser,.int .i64 o.c.tok,.string ⟨o.c.cli.toArray⟩,.string ⟨o.c.usr.toArray⟩,u,.string ⟨o.c.red.toArray⟩,.string ⟨o.c.cha.toArray⟩,.string ⟨o.c.met.toArray⟩,.string ⟨o.c.ver.toArray⟩,.bool o.c.rf,.int .i64 o.c.edg]
structure TxA (li:Nat)(c:Lb)(W:World)(u:Value)(o:Op):Prop where
 rd:RdS W u o.c.sco
 lb:0<o.c.sco.length→LbO c li u
 ok:Gr.CmOk o.c
 fz:li≤3→0<o.c.sco.length→ ∀g,u.ownBlock=some g→ ∀q,W.frozen? ⟨g,q,none⟩=false
theorem frz_of {W W':World}{g:Nat}(h:W'.heap[g]?=W.heap[g]?)(q:Nat):W'.frozen? ⟨g,q,none⟩=W.frozen? ⟨g,q,none⟩:=by
 simp only[World.frozen?,h]
def opE (li:Nat):Ek Op:=⟨16,26,opC,fun c W u o=>TxA li c W u o,fun k=>k=li⟩
theorem slc_one {W:World}{sz n:Nat}{v:Value}{cs:List Value}(h:Rd W sz v n cs):v.oneCell'=true:=by
 obtain⟨a,c,rfl⟩:=h.slice;rfl
theorem opE_ok (li:Nat):(opE li).Ok:=by
 refine⟨by show 0<16;decide,fun a u=>rfl,fun c W u o h x hx=> ?_,fun c c' W W' u o h hc hb=> ?_⟩
 ·have hu:=slc_one (TxA.rd h).1
  exact Z59
 ·have h2:TxA li c W u o:=h
  refine⟨⟨rd_keepL h2.rd.1 Z37 fun h0 g hg hlt=>hb g hlt (h2.lb h0 g hg),h2.rd.2⟩,fun h0 g hg=> ?_,h2.ok,fun hl h0 g hg q=>(frz_of (hb g (rd_lt h2.rd.1 Z37 h0 g hg) (h2.lb h0 g hg)) q).trans (h2.fz hl h0 g hg q)⟩
  rw[hc g (rd_lt h2.rd.1 Z37 h0 g hg)]
  exact h2.lb h0 g hg
theorem str_row:(Tryz.prog.info? 9).map (fun i=>(i.zero,i.size,i.bytes))=some (some (.string ⟨#[]⟩),1,16):=by kernel_rfl
theorem op_row:(Tryz.prog.info? 26).map (fun i=>(i.zero,i.size,i.bytes))=some (some (.agg #[.int .i64 0,.int .i64 0,.int .i64 0,.int .i64 0,.string ⟨#[]⟩,.int .i64 0,.int .i64 0,.string ⟨#[]⟩,.string ⟨#[]⟩,.slice none 0 0,.string ⟨#[]⟩,.string ⟨#[]⟩,.string ⟨#[]⟩,.string ⟨#[]⟩,.bool false,.int .i64 0]),16,200):=by kernel_rfl
theorem info_parts {P:Program}{t:TypeId}{z:Value}{s b:Nat}(h:(P.info? t).map (fun i=>(i.zero,i.size,i.bytes))=some (some z,s,b)): ∃i,P.info? t=some i∧i.zero=some z∧i.size=s∧i.bytes=b:=by
 cases hi:P.info? t with
 |none=>rw[hi] at h;cases h
 |some i=>rw[hi] at h;simp at h;exact⟨i,rfl,h.1,h.2.1,h.2.2⟩
theorem execA {P:Program}{o:Oper}{a:Act}(s x:Operand)(t:TypeId)(ho:o.op= .call {callee:= .builtin .append,args:= #[s,x],argTypes:= #[t,t] }){S X v':Value}{w w':World}(hs:a.eval s=S)(hx:a.eval x=X)
 (hr:(Builtin.append_ #[t,t] o.type #[S,X]).run P w= .ok v' w'):(execOp a.eval o).run P w= .ok (.value v') w':=by
 simp only[execOp,ho,resolve,invoke,builtin,Sem.run_bind,Sem.run_pure,Result.andThen_ok,List.map_toArray,List.map_cons,List.map_nil,hs,hx,hr]
theorem wpList_execA {P:Program}{ops:Array Oper}{rest:List Oper}{o:Oper}{a:Act}{w w':World}{v:Value}{Q:Exit→Act→World→Prop}(hw:Region.wanted o (yielded ops a.tmps)=true)
 (hr:(execOp a.eval o).run P w= .ok (.value v) w') (h:wpList P ops Q rest (a.put o.dst v) w'):wpList P ops Q (o::rest) a w:=
 wpList_step fun K hK=>by
  rw[if_pos hw]
  unfold Oper.wp
  simp only[hr]
  exact hK _ _ h
theorem cloneS_any (l:List (List UInt8))(v:Value)(w:World)(h:RdS w v l)(hl:l.length≤1048576):
 Calls Tryz.prog 83 #[v] w fun e w'=> ∃v',e= .returned v'∧OwnS w' w.heap.size v' l∧Below w.heap.size w w':=by
 obtain⟨a,c,rfl⟩:=h.1.slice
 rcases a with _|ad
 ·have hb:l= []:=by
   rcases Nat.eq_zero_or_pos l.length with h0|h0
   ·exact List.eq_nil_of_length_eq_zero h0
   ·obtain⟨_,_,_,e,_⟩:=h.1.pos h0;cases e
  subst hb
  clear h
  have hq: ∀W,(binOp .eql 22 (.slice none 0 c) (.slice none 0 0)).run Tryz.prog W= .ok (.bool true) W:=fun W=>by kernel_rfl
  go_enter Tryz.func83,Tryz.ntmps83
  go_wp2
  go_ret
  exact⟨_,rfl,World.ownsRow_nil _ _ _ _,Below.refl _ _⟩
 ·obtain⟨i0,hi,hz0,hz1,hz2⟩:=info_parts str_row
  have hb0:Below w.heap.size w (w.alloc (.cells #[] 9)):=(Below.refl w.heap.size w).alloc (Nat.le_refl _) _
  obtain⟨v',w',hrun,ho,hg,_⟩:=app_run (P:=Tryz.prog) (w.alloc (.cells #[] 9)) 22 22 9 w.heap.size i0 (.string ⟨#[]⟩) 1 16 Tryz.underlying22 hi hz0 hz1 hz2 rfl Z37 (.slice (some ⟨w.heap.size,0,none⟩) 0 0) 0 [] (own_fresh w 9 1) (.slice (some ad) l.length c) l.length (l.map sv) (h.1.below hb0) (sv_one l) Z67 Z11 (by rw[World.size_alloc];omega)
  have hb:=below_app (Below.refl w.heap.size w) (Nat.le_refl _) hg (fun k e=>by cases e;exact Nat.le_refl _)
  rw[Nat.zero_add,List.nil_append] at ho
  have HRUN:=Lib.hid hrun
  have HO:Hid (OwnS w' w.heap.size v' l∧Below w.heap.size w w'):=Lib.hid ⟨ho,hb⟩
  clear h hrun ho hg hb hb0 hi hz0 hz1 hz2
  have hq: ∀W,(binOp .eql 22 (.slice (some ad) l.length c) (.slice none 0 0)).run Tryz.prog W= .ok (.bool false) W:=fun W=>by kernel_rfl
  go_enter Tryz.func83,Tryz.ntmps83
  go_wp2_with (at_builtin;go_loud (refine wpList_execA rfl (execA (.tmp 5) (.tmp 6) 22 rfl rfl rfl HRUN.out) ?_))
  go_wp2_with fail
  go_ret
  exact⟨_,rfl,HO.out⟩
theorem cloneO_any (n:Nat)(cs:List Value)(v:Value)(w:World)(h:Rd w 16 v n cs)(h1: ∀u∈cs,u.oneCell'=true)(hl:n≤1073741824):
 Calls Tryz.prog 59 #[v] w fun e w'=> ∃v',e= .returned v'∧w'.ownsRow w.heap.size 26 16 v' n cs∧Below w.heap.size w w':=by
 obtain⟨a,c,rfl⟩:=h.slice
 rcases a with _|ad
 ·have hb:n=0:=by
   rcases Nat.eq_zero_or_pos n with h0|h0
   ·exact h0
   ·obtain⟨_,_,_,e,_⟩:=h.pos h0;cases e
  subst hb
  have hcs:cs= []:=List.eq_nil_of_length_eq_zero (by rw[h.1])
  subst hcs
  clear h h1
  have hq: ∀W,(binOp .eql 35 (.slice none 0 c) (.slice none 0 0)).run Tryz.prog W= .ok (.bool true) W:=fun W=>by kernel_rfl
  go_enter Tryz.func59,Tryz.ntmps59
  go_wp2
  go_ret
  exact⟨_,rfl,World.ownsRow_nil _ _ _ _,Below.refl _ _⟩
 ·obtain⟨i0,hi,hz0,hz1,hz2⟩:=info_parts op_row
  have hb0:Below w.heap.size w (w.alloc (.cells #[] 26)):=(Below.refl w.heap.size w).alloc (Nat.le_refl _) _
  obtain⟨v',w',hrun,ho,hg,_⟩:=app_run (P:=Tryz.prog) (w.alloc (.cells #[] 26)) 35 35 26 w.heap.size i0 _ 16 200 Tryz.underlying35 hi hz0 hz1 hz2 rfl Z37 (.slice (some ⟨w.heap.size,0,none⟩) 0 0) 0 [] (own_fresh w 26 16) (.slice (some ad) n c) n cs (h.below hb0) h1 Z67 Z11 (by rw[World.size_alloc];omega)
  have hb:=below_app (Below.refl w.heap.size w) (Nat.le_refl _) hg (fun k e=>by cases e;exact Nat.le_refl _)
  rw[Nat.zero_add,List.nil_append] at ho
  have HRUN:=Lib.hid hrun
  have HO:=Lib.hid (And.intro ho hb)
  clear h hrun ho hg hb hb0 hi hz0 hz1 hz2 h1
  have hq: ∀W,(binOp .eql 35 (.slice (some ad) n c) (.slice none 0 0)).run Tryz.prog W= .ok (.bool false) W:=fun W=>by kernel_rfl
  go_enter Tryz.func59,Tryz.ntmps59
  go_wp2_with (at_builtin;go_loud (refine wpList_execA rfl (execA (.tmp 5) (.tmp 6) 35 rfl rfl rfl HRUN.out) ?_))
  go_wp2_with fail
  go_ret
  exact⟨_,rfl,HO.out⟩
structure NewO (B:Nat)(w':World)(v':Value)(l:List Op):Prop where
 ex: ∃vs:List Value,vs.length=l.length∧w'.ownsRow B 26 16 v' l.length (flat (opE 0) l vs)∧
  ∀(i:Nat) o u,l[i]?=some o→vs[i]?=some u→RdS w' u o.c.sco∧Gr.CmOk o.c∧ ∀g,u.ownBlock=some g→B≤g∧g<w'.heap.size∧v'.ownBlock≠some g∧ ∀q,w'.frozen? ⟨g,q,none⟩=false
def Lb.new (c:Lb)(B:Nat)(v:Value)(lo li:Nat):Lb:=fun k=>if v.ownBlock=some k then lo else if B≤k then li else c k
theorem NewO.row {w w':World}{v':Value}{l:List Op}(h:NewO w.heap.size w' v' l)(c:Lb)(lo li:Nat):Lx w c (c.new w.heap.size v' lo li)∧Row (opE li) (c.new w.heap.size v' lo li) lo w' v' l:=by
 obtain⟨vs,h1,h2,h3⟩:=h.ex
 refine⟨fun k hk=> ?_,⟨vs,⟨h1,fun i o u ho hu=> ?_⟩,own_mono h2 (Nat.zero_le _)⟩,fun g hg=>if_pos hg⟩
 ·unfold Lb.new
  rw[if_neg fun e=>by have:=(h2.lt k e).1;omega,if_neg Z11]
 ·obtain⟨h4,h5,h6⟩:=h3 i o u ho hu
  refine⟨h4,fun h0 g hg=> ?_,h5,fun _ _ g hg=>(h6 g hg).2.2.2⟩
  obtain⟨h7,_,h8,_⟩:=h6 g hg
  unfold Lb.new
  rw[if_neg h8,if_pos h7]
theorem flat_set {k:Nat}{l:List Op}{vs:List Value}(h:vs.length=l.length)(hk:k<l.length)(u:Value):(flat (opE 0) l vs).set (k*16+9) u=flat (opE 0) l (vs.set k u):=by
 have h0:=opE_ok 0
 obtain⟨o,ho⟩: ∃o,l[k]?=some o:=⟨_,List.getElem?_eq_getElem hk⟩
 obtain⟨x,hx⟩: ∃x,vs[k]?=some x:=⟨_,List.getElem?_eq_getElem Z11⟩
 have hlen:=flat_len h0 l vs h
 have hlen2:=flat_len h0 l (vs.set k u) (by simpa using h)
 have hz:(opE 0).sz=16:=rfl
 refine List.ext_getElem? fun j=> ?_
 rw[List.getElem?_set]
 rcases Nat.lt_or_ge j (l.length*16) with hj|hj
 ·have hq:j/16<l.length:=by omega
  have hr:j % 16<16:=by omega
  have hjj:j=j/16*(opE 0).sz+j % 16:=by rw[hz];omega
  obtain⟨o2,ho2⟩: ∃o,l[j/16]?=some o:=⟨_,List.getElem?_eq_getElem hq⟩
  obtain⟨x2,hx2⟩: ∃x,vs[j/16]?=some x:=⟨_,List.getElem?_eq_getElem Z11⟩
  have hvs2:(vs.set k u)[j/16]?=some (if k=j/16 then u else x2):=by
   rw[List.getElem?_set,if_pos (by omega:k<vs.length)] at*
   split
   ·rfl
   ·exact hx2
  obtain⟨y,hy⟩: ∃y,((opE 0).cel o2 (if k=j/16 then u else x2))[j % 16]?=some y:=⟨_,List.getElem?_eq_getElem (by rw[h0.len];exact hr)⟩
  obtain⟨y2,hy2⟩: ∃y,((opE 0).cel o2 x2)[j % 16]?=some y:=⟨_,List.getElem?_eq_getElem (by rw[h0.len];exact hr)⟩
  have e1:=flat_get h0 (l:=l) (vs:=vs.set k u) (by simpa using h) ho2 hvs2 hy
  have e2:=flat_get h0 h ho2 hx2 hy2
  rw[←hjj] at e1 e2
  rw[e1,e2]
  by_cases hjk:k*16+9=j
  ·rw[if_pos hjk,if_pos (by rw[hlen,hz];omega)]
   have hkj:k=j/16:=by omega
   have h9:j % 16=9:=by omega
   rw[if_pos hkj,h9] at hy
   exact hy
  ·rw[if_neg hjk]
   by_cases hkj:k=j/16
   ·rw[if_pos hkj] at hy
    have h9:j % 16≠9:=by omega
    rw[←hy,←hy2]
    show(opC o2 x2)[j % 16]?=(opC o2 u)[j % 16]?
    unfold opC
    have hc:j % 16=0∨j % 16=1∨j % 16=2∨j % 16=3∨j % 16=4∨j % 16=5∨j % 16=6∨j % 16=7∨j % 16=8∨j % 16=10∨j % 16=11∨j % 16=12∨j % 16=13∨j % 16=14∨j % 16=15:=by omega
    rcases hc with hc|hc|hc|hc|hc|hc|hc|hc|hc|hc|hc|hc|hc|hc|hc<;>rw[hc]<;>rfl
   ·rw[if_neg hkj] at hy
    rw[←hy,←hy2]
 ·rw[List.getElem?_eq_none (by rw[hlen,hz];exact hj),List.getElem?_eq_none (by rw[hlen2,hz];exact hj)]
  split
  ·rename_i hjk;rw[if_neg (by rw[hlen,hz];omega)]
  ·rfl
end Go.Proofs.YtdmjegelcdghlaaGreat.Vw
namespace Go.Proofs.YtdmjegelcdghlaaGreat
theorem Z180 {p:Prop}(h:p:=by
 go_wp2_with fail
 go_roundw
 case rel=>exact⟨j+1,Z81,Z11,HN.out⟩
 case measure=>simp[intOf];omega):p:=h
end Go.Proofs.YtdmjegelcdghlaaGreat
namespace Go.Proofs.YtdmjegelcdghlaaGreat.Vw
open Go.RowKit Go.Maps
structure Own1 (w:World)(l:List Op)(vs:List Value)(v1:Value)(j:Nat)(wr:World):Prop where
 ex: ∃us:List Value,us.length=l.length∧wr.ownsRow w.heap.size 26 16 v1 l.length (flat (opE 0) l us)∧
  ∀(i:Nat) o u,l[i]?=some o→us[i]?=some u→Gr.CmOk o.c∧RdS wr u o.c.sco∧((j≤i∧vs[i]?=some u∧(0<o.c.sco.length→ ∀g,u.ownBlock=some g→g<w.heap.size))∨(i<j∧ ∀g,u.ownBlock=some g→w.heap.size≤g∧g<wr.heap.size∧v1.ownBlock≠some g∧ ∀q,wr.frozen? ⟨g,q,none⟩=false))
 b:Below w.heap.size w wr
theorem rdS_low {W W':World}{u:Value}{l:List (List UInt8)}(h:RdS W u l)(hb:0<l.length→ ∀g,u.ownBlock=some g→g<W.heap.size→W'.heap[g]?=W.heap[g]?):RdS W' u l:=⟨rd_keepL h.1 Z37 hb,h.2⟩
theorem own_frz {W:World}{B n sz:Nat}{e:TypeId}{v:Value}{xs:List Value}(h:W.ownsRow B e sz v n xs){g:Nat}(hg:v.ownBlock=some g)(q:Nat):W.frozen? ⟨g,q,none⟩=false:=by
 rcases h.2 with⟨h1,_⟩|⟨g',cap,cur,hv,_⟩
 ·rw[h1] at hg;cases hg
 ·have e:g'=g:=by rw[hv] at hg;exact Option.some.inj hg
  subst e
  subst hv
  exact h.frozenAt q
theorem Own1.step {w:World}{l:List Op}{vs:List Value}{g0 cap j:Nat}{wr w2:World}{v2:Value}{o:Op}(h:Own1 w l vs (.slice (some ⟨g0,0,none⟩) l.length cap) j wr)(ho:l[j]?=some o)(ho2:OwnS w2 wr.heap.size v2 o.c.sco)(hsc: ∀x∈o.c.sco,x.length≤9223372036854775807)(hb:Below wr.heap.size wr w2):
 Own1 w l vs (.slice (some ⟨g0,0,none⟩) l.length cap) (j+1) (w2.setCell ⟨g0,j*16+9,none⟩ v2):=by
 obtain⟨⟨us,h1,h2,h3⟩,h4⟩:=h
 have hj:=(List.getElem?_eq_some_iff.1 ho).1
 have h5:=own_below h2 hb
 have hlt:=h2.lt g0 rfl
 have h6:=h5.stored (j*16+9) v2
 have hset:=flat_set h1 hj v2
 rw[hset] at h6
 have hfr: ∀k,k≠g0→(w2.setCell ⟨g0,j*16+9,none⟩ v2).heap[k]?=w2.heap[k]?:=fun k hk=>Below.heap_setCell _ _ _ _ hk
 have hsz:(w2.setCell ⟨g0,j*16+9,none⟩ v2).heap.size=w2.heap.size:=by show(w2.heap.modify _ _).size=_;rw[Array.size_modify]
 refine⟨⟨us.set j v2,by simpa using h1,h6.1,fun i o2 u ho3 hu=> ?_⟩,(h4.trans (hb.mono h4.size)).setCell hlt.1 _⟩
 rw[List.getElem?_set] at hu
 by_cases hij:j=i
 ·subst hij
  rw[if_pos rfl,if_pos Z11] at hu
  cases hu
  rw[ho] at ho3
  cases ho3
  have hnew: ∀g,v2.ownBlock=some g→w.heap.size≤g∧g<(w2.setCell ⟨g0,j*16+9,none⟩ v2).heap.size∧(Value.slice (some ⟨g0,0,none⟩) l.length cap).ownBlock≠some g∧ ∀q,(w2.setCell ⟨g0,j*16+9,none⟩ v2).frozen? ⟨g,q,none⟩=false:=fun g hg=>by
   obtain⟨h7,h8⟩:=World.ownsRow.lt ho2 g hg
   have h9:=h4.size
   exact⟨Z11,by rw[hsz];exact h8,fun e=>by have e2:g0=g:=Option.some.inj e;omega,fun q=>(frz_of (hfr g fun e=>Z11) q).trans (own_frz ho2 hg q)⟩
  obtain⟨u0,hu0⟩: ∃u,us[j]?=some u:=⟨_,List.getElem?_eq_getElem Z11⟩
  refine⟨(h3 j o u0 ho hu0).1,rdS_low (ho2.rd hsc) fun h0 g hg hlt2=>hfr g fun e=> ?_,.inr ⟨Z11,hnew⟩⟩
  have:=(World.ownsRow.lt ho2 g hg).1
  omega
 ·rw[if_neg hij] at hu
  obtain⟨h7,h8,h9⟩:=h3 i o2 u ho3 hu
  refine⟨h7,rdS_low (h8.below hb) fun h0 g hg hlt2=>hfr g fun e=> ?_,?_⟩
  ·subst e
   rcases h9 with⟨_,_,h10⟩|⟨_,h10⟩
   ·have:=h10 h0 g hg;omega
   ·exact(h10 g hg).2.2.1 rfl
  ·rcases h9 with⟨h10,h11,h12⟩|⟨h10,h11⟩
   ·exact .inl ⟨Z11,h11,h12⟩
   ·refine .inr ⟨Z11,fun g hg=> ?_⟩
    obtain⟨h12,h13,h14,h15⟩:=h11 g hg
    exact⟨h12,by rw[hsz];exact Nat.lt_of_lt_of_le h13 hb.size,h14,fun q=>(frz_of ((hfr g fun e=>h14 (by rw[e];rfl)).trans (hb.block g h13)) q).trans (h15 q)⟩
theorem Own1.done {w:World}{l:List Op}{vs:List Value}{v1:Value}{wr:World}(h:Own1 w l vs v1 l.length wr):NewO w.heap.size wr v1 l:=by
 obtain⟨⟨us,h1,h2,h3⟩,h4⟩:=h
 refine⟨us,h1,h2,fun i o u ho hu=> ?_⟩
 obtain⟨h5,h6,h7⟩:=h3 i o u ho hu
 rcases h7 with⟨h8,_⟩|⟨_,h8⟩
 ·have:=(List.getElem?_eq_some_iff.1 ho).1;omega
 ·exact⟨h6,h5,h8⟩
theorem own_any {li lo:Nat}{c:Lb}(l:List Op)(v:Value)(w:World)(h:SlR (opE li) c lo w v l)(hl:l.length≤1073741824):
 Calls Tryz.prog 48 #[v] w fun e w'=> ∃v',e= .returned v'∧NewO w.heap.size w' v' l∧Below w.heap.size w w':=by
 obtain⟨vs,hin,hrd⟩:=h.ex
 obtain⟨a,cp,rfl⟩:=h.slice
 have HCL:=Lib.hid (cloneO_any l.length (flat (opE li) l vs) (.slice a l.length cp) w hrd (flat_one (opE_ok li) l vs hin.1 hin.2) hl)
 have HIN:Hid (∀(i:Nat) o u,l[i]?=some o→vs[i]?=some u→Gr.CmOk o.c∧RdS w u o.c.sco∧(0<o.c.sco.length→ ∀g,u.ownBlock=some g→g<w.heap.size)):=Lib.hid fun i o u ho hu=>by
  have h1:TxA li c w u o:=hin.2 i o u ho hu
  exact⟨h1.ok,h1.rd,fun h0=>rd_lt h1.rd.1 Z37 h0⟩
 have HL:Hid (vs.length=l.length∧l.length≤1073741824):=Lib.hid ⟨hin.1,hl⟩
 clear h hrd hin hl
 go_enter Tryz.func48,Tryz.ntmps48
 go_wp2_with fail
 refine HCL.out.mono ?_
 rintro e w1 ⟨v1,rfl,ho1,hb1⟩
 obtain⟨a1,c1,e1⟩:=(Rd.of_own ho1).slice
 subst e1
 have HST:Hid (Own1 w l vs (.slice a1 l.length c1) 0 w1):=Lib.hid ⟨⟨vs,HL.out.1,ho1,fun i o u ho hu=>by
  obtain⟨h1,h2,h3⟩:=HIN.out i o u ho hu
  exact⟨h1,rdS_low h2 fun h0 g hg hlt=>hb1.block g hlt,.inl ⟨Nat.zero_le _,hu,h3⟩⟩⟩,hb1⟩
 clear ho1 hb1 HCL HIN
 go_wp2_with fail
 go_loopw [8] (fun k wr=> ∃j:Nat,k= .int .i64 (j:Int)∧j≤l.length∧Own1 w l vs (.slice a1 l.length c1) j wr) (fun k _=>l.length-(intOf k).toNat)
 case atStart=>exact⟨0,rfl,Nat.zero_le _,HST.out⟩
 case round=>
  obtain⟨j,rfl,hj,hst⟩:=hrel
  by_cases hjl:j<l.length
  case neg=>
   have t1: ¬(j:Int)<(l.length:Int):=by omega
   have HD:Hid (NewO w.heap.size wr (.slice a1 l.length c1) l∧Below w.heap.size w wr):=Lib.hid ⟨by
    have h2:=hst
    rw[show j=l.length from Z11] at h2
    exact h2.done,hst.b⟩
   clear hst
   go_wp2_with fail
   go_ret
   exact⟨_,rfl,HD.out⟩
  case pos=>
  have t1:(j:Int)<(l.length:Int):=by omega
  obtain⟨o,ho⟩: ∃o,l[j]?=some o:=⟨_,List.getElem?_eq_getElem hjl⟩
  obtain⟨us,hu1,hu2,hu3⟩:=hst.ex
  obtain⟨u,hu⟩: ∃u,us[j]?=some u:=⟨_,List.getElem?_eq_getElem Z11⟩
  obtain⟨g0,ea⟩: ∃g0,a1=some ⟨g0,0,none⟩:=by
   rcases hu2.2 with⟨_,h0⟩|⟨g,cap,cur,e,_⟩
   ·omega
   ·cases e;exact⟨g,rfl⟩
  subst ea
  have hcell:wr.cell? ⟨g0,j*16+9,none⟩=some u:=by
   have h0:=hu2.cells (g:=g0) rfl (j*16+9) u (flat_get (opE_ok 0) (k:=j) (j:=9) hu1 ho hu rfl)
   rw[Addr.add_lit,Nat.zero_add] at h0
   exact h0
  have hfz:=hu2.frozenAt (j*16+9)
  obtain⟨hok,hrs,-⟩:=hu3 j o u ho hu
  have HST2:=Lib.hid hst
  have HO2:=Lib.hid (And.intro ho hok)
  obtain⟨ua,uc,eu⟩:=hrs.1.slice
  subst eu
  have HCS:=Lib.hid (cloneS_any o.c.sco (.slice ua o.c.sco.length uc) wr hrs hok.sco)
  have HRS:=Lib.hid hrs
  clear hst hu1 hu2 hu3 hu ho hok hrs
  go_wp2_with fail
  refine HCS.out.mono ?_
  rintro e w2 ⟨v2,rfl,ho2,hb2⟩
  obtain⟨x2,y2,e2⟩:=(Rd.of_own ho2).slice
  subst e2
  have hglt:g0<wr.heap.size:=World.block_lt_of_cell? wr _ hcell
  have hcell2:=(hb2.cell (p:=⟨g0,j*16+9,none⟩) hglt).trans hcell
  have hfz2:=(hb2.frozen (p:=⟨g0,j*16+9,none⟩) hglt).trans hfz
  have HN:=Lib.hid (HST2.out.step HO2.out.1 ho2 HRS.out.2 hb2)
  clear ho2 hb2 hcell hfz hglt HCS
  have hb9:=HL.out.2
  exact Z180
end Go.Proofs.YtdmjegelcdghlaaGreat.Vw
namespace Go.Proofs.YtdmjegelcdghlaaGreat
theorem Z71 {p:Prop}(h:p:=by rcases hl with hl|hl<;>exact hl):p:=h
end Go.Proofs.YtdmjegelcdghlaaGreat
namespace Go.Proofs.YtdmjegelcdghlaaGreat.Vw
open Go.RowKit Go.Maps
def ntE:Ek Nat:=⟨1,3,fun a _=> [.int .i64 (a:Int)],fun _ _ _ _=>True,fun _=>False⟩
theorem ntE_ok:ntE.Ok:=⟨Z37,fun _ _=>rfl,fun c W a u _ x hx=>by
 have:x= .int .i64 (a:Int):=by simpa[ntE] using hx
 subst this;rfl,fun _ _ _ _ _ _ _ _ _=>trivial⟩
def svC (x:Sv Op)(u:Value):List Value:= [.bool x.lg,.int .i64 (x.vw:Int),.int .i64 (x.ao:Int),u,.int .i64 (x.sb:Int)]
structure SvI (li:Nat)(c:Lb)(W:World)(u:Value)(x:Sv Op):Prop where
 s:SlR (opE li) c li W u x.ops
 n:x.ops.length≤1048576
def svE (li:Nat):Ek (Sv Op):=⟨5,51,svC,fun c W u x=>SvI li c W u x,fun k=>k=li⟩
theorem svE_ok (li:Nat):(svE li).Ok:=by
 refine⟨by show 0<5;decide,fun a u=>rfl,fun c W a u h x hx=> ?_,fun c c' W W' u a h hc hb=> ?_⟩
 ·obtain⟨a1,c1,e⟩:=(SvI.s h).slice
  have hx':x∈svC a u:=hx
  unfold svC at hx'
  simp only[List.mem_cons,List.not_mem_nil,or_false] at hx'
  rcases hx' with rfl|rfl|rfl|rfl|rfl<;>first|rfl|(rw[e];rfl)
 ·exact⟨(SvI.s h).keep (opE_ok li) hc fun k hk hl=>hb k hk Z71,SvI.n h⟩
def msC (m:Ms Op)(u:Value):List Value:= [.int .i64 (m.kd:Int),.int .i64 (m.fr:Int),.int .i64 (m.vw:Int),.int .i64 (m.nr:Int),.int .i64 (m.ao:Int),u,.int .i64 (m.cm:Int),.int .i64 (m.sb:Int),.int .i64 (m.ls:Int)]
def sdC (x:Sd Op)(u:Value):List Value:= [.int .i64 (x.to:Int),.int .i64 (x.m.kd:Int),.int .i64 (x.m.fr:Int),.int .i64 (x.m.vw:Int),.int .i64 (x.m.nr:Int),.int .i64 (x.m.ao:Int),u,.int .i64 (x.m.cm:Int),.int .i64 (x.m.sb:Int),.int .i64 (x.m.ls:Int)]
structure SdI (li:Nat)(c:Lb)(W:World)(u:Value)(x:Sd Op):Prop where
 s:SlR (opE li) c li W u x.m.ops
 n:x.m.ops.length≤1048576
def sdE (li:Nat):Ek (Sd Op):=⟨10,53,sdC,fun c W u x=>SdI li c W u x,fun k=>k=li⟩
theorem sdE_ok (li:Nat):(sdE li).Ok:=by
 refine⟨by show 0<10;decide,fun a u=>rfl,fun c W a u h x hx=> ?_,fun c c' W W' u a h hc hb=> ?_⟩
 ·obtain⟨a1,c1,e⟩:=(SdI.s h).slice
  have hx':x∈sdC a u:=hx
  unfold sdC at hx'
  simp only[List.mem_cons,List.not_mem_nil,or_false] at hx'
  rcases hx' with rfl|rfl|rfl|rfl|rfl|rfl|rfl|rfl|rfl|rfl<;>first|rfl|(rw[e];rfl)
 ·exact⟨(SdI.s h).keep (opE_ok li) hc fun k hk hl=>hb k hk Z71,SdI.n h⟩
theorem sv_row:(Tryz.prog.info? 51).map (fun i=>(i.zero,i.size,i.bytes))=some (some (.agg #[.bool false,.int .i64 0,.int .i64 0,.slice none 0 0,.int .i64 0]),5,56):=by kernel_rfl
theorem sd_row:(Tryz.prog.info? 53).map (fun i=>(i.zero,i.size,i.bytes))=some (some (.agg #[.int .i64 0,.int .i64 0,.int .i64 0,.int .i64 0,.int .i64 0,.int .i64 0,.slice none 0 0,.int .i64 0,.int .i64 0,.int .i64 0]),10,96):=by kernel_rfl
theorem int_row:(Tryz.prog.info? 3).map (fun i=>(i.zero,i.size,i.bytes))=some (some (.int .i64 0),1,8):=by kernel_rfl
def ofV (o:Of Op)(u:Value):Value:= .agg #[.int .i64 (o.nr:Int),.int .i64 (o.ao:Int),.int .i64 (o.cm:Int),u]
def heldR (v:Value):Option (DataW Value×List MemPlace):=some (.held v,[])
theorem ikey:Keyed Tryz.prog 3:=int_keyed Tryz.underlying3
def cntO (f:Nat→Option (Of Op))(n:Nat):Nat:=((List.range n).filterMap f).length
theorem cntO_upd (f:Nat→Option (Of Op))(n k:Nat)(o:Of Op)(hk:k<n):cntO (upd f k (some o)) n=if(f k).isSome then cntO f n else cntO f n+1:=by
 unfold cntO
 have aux: ∀(l:List Nat),l.Nodup→(l.filterMap (upd f k (some o))).length=if k∈l then(if(f k).isSome then(l.filterMap f).length else(l.filterMap f).length+1) else(l.filterMap f).length:=by
  intro l
  induction l with
  |nil=>intro _;simp
  |cons a l ih=>
   intro hn
   rw[List.nodup_cons] at hn
   have h1:=ih hn.2
   by_cases ha:a=k
   ·subst ha
    rw[if_neg hn.1] at h1
    rw[List.filterMap_cons,show upd f a (some o) a=some o from by unfold upd;rw[if_pos rfl],List.filterMap_cons]
    simp only[List.length_cons,h1,List.mem_cons,true_or,if_true]
    cases hf:f a<;>simp
   ·have hu:upd f k (some o) a=f a:=by unfold upd;rw[if_neg ha]
    rw[List.filterMap_cons,hu,List.filterMap_cons]
    have hm:(k∈a::l)↔k∈l:=by simp[Ne.symm ha]
    simp only[hm]
    cases hf:f a with
    |none=>simpa using h1
    |some y=>
     simp only[List.length_cons,h1]
     split<;>first|rfl|(split<;>rfl)
 have h2:=aux (List.range n) List.nodup_range
 rw[h2,if_pos (List.mem_range.2 hk)]
structure OfM (li:Nat)(c:Lb)(W:World)(m n:Nat)(f:Nat→Option (Of Op)):Prop where
 ex: ∃(D:DataW Value) (us:Nat→Value),W.ownsMap Tryz.prog 3 heldR m (cntO f n) D∧Maps.size D=cntO f n∧
  (∀k o,f k=some o→k<n∧has D (.int .i64 (k:Int))=true∧(∀zd,D.atKey (.int .i64 (k:Int)) zd= .held (ofV o (us k)))∧SlR (opE li) c li W (us k) o.ops∧o.ops.length≤1048576)∧
  (∀k,f k=none→has D (.int .i64 (k:Int))=false)
theorem OfM.lt {li:Nat}{c:Lb}{W:World}{m n:Nat}{f:Nat→Option (Of Op)}(h:OfM li c W m n f):m<W.heap.size:=by
 obtain⟨D,us,h1,_⟩:=h.ex
 exact h1.lt
theorem OfM.keep {li:Nat}{c c':Lb}{W W':World}{m n:Nat}{f:Nat→Option (Of Op)}(h:OfM li c W m n f)(hc:Lx W c c')(hm:W'.heap[m]?=W.heap[m]?)(hb: ∀k,k<W.heap.size→c k=li→W'.heap[k]?=W.heap[k]?):OfM li c' W' m n f:=by
 obtain⟨D,us,⟨es,clock,h0,F,hs,hD⟩,h2,h3,h4⟩:=h.ex
 refine⟨D,us,⟨es,clock,hm.trans h0,F,hs,hD⟩,h2,fun k o ho=> ?_,h4⟩
 obtain⟨h5,h6,h7,h8,h9⟩:=h3 k o ho
 exact⟨h5,h6,h7,h8.keep (opE_ok li) hc fun k hk hl=>hb k hk Z71,h9⟩
def OfR (i:Nat)(c:Lb)(W:World)(ov:Value)(r:Rp Op):Prop:=
 (ov= .map none∧r.st≠1∧ ∀k,r.offs k=none)∨ ∃m,ov= .map (some m)∧c m=13+10*i∧OfM 1 c W m r.n r.offs
structure RP (i:Nat)(c:Lb)(W:World)(r:Rp Op)(lv hv ov sv uv:Value):Prop where
 lg:Row (opE 1) c (11+10*i) W lv r.log
 hv:Row ntE c (12+10*i) W hv r.hv
 of:OfR i c W ov r
 sv:Row (svE 2) c (14+10*i) W sv r.saves
 ou:Row (sdE 3) c (15+10*i) W uv r.out
def rpC (r:Rp Op)(lv hv ov sv uv:Value):List Value:= [.int .i64 (r.id:Int),.int .i64 (r.n:Int),.int .i64 (r.st:Int),.int .i64 (r.vw:Int),.int .i64 (r.nr:Int),.int .i64 (r.bs:Int),.int .i64 (r.td:Int),.int .i64 (r.cm:Int),.int .i64 (r.sb:Int),.int .i64 (r.ls:Int),lv,.int .i64 (r.idle:Int),hv,ov,sv,uv]
structure RV (i:Nat)(c:Lb)(W:World)(p:Nat)(r:Rp Op):Prop where
 lb:c p=10+10*i
 ex: ∃lv hv ov sv uv,Blk W p 94 (rpC r lv hv ov sv uv)∧RP i c W r lv hv ov sv uv
theorem RP.keep {i:Nat}{c c':Lb}{W W':World}{r:Rp Op}{lv hv ov sv uv:Value}(h:RP i c W r lv hv ov sv uv)(hc:Lx W c c')(hb: ∀k,k<W.heap.size→(1≤c k∧c k≤3)∨(11+10*i≤c k∧c k≤15+10*i)→W'.heap[k]?=W.heap[k]?):RP i c' W' r lv hv ov sv uv:=by
 refine⟨h.lg.keep (opE_ok 1) hc fun k hk hl=>hb k hk ?_,h.hv.keep ntE_ok hc fun k hk hl=>hb k hk ?_,?_,h.sv.keep (svE_ok 2) hc fun k hk hl=>hb k hk ?_,h.ou.keep (sdE_ok 3) hc fun k hk hl=>hb k hk ?_⟩
 ·rcases hl with hl|hl
  ·have:c k=1:=hl
   omega
  ·omega
 ·rcases hl with hl|hl
  ·exact absurd hl (by intro h;exact h)
  ·omega
 ·rcases h.of with h1|⟨m,h1,h2,h3⟩
  ·exact .inl h1
  ·refine .inr ⟨m,h1,?_,h3.keep hc (hb m h3.lt Z11) fun k hk hl=>hb k hk Z11⟩
   rw[hc m h3.lt];exact h2
 ·rcases hl with hl|hl
  ·have:c k=2:=hl
   omega
  ·omega
 ·rcases hl with hl|hl
  ·have:c k=3:=hl
   omega
  ·omega
theorem RV.lt {i:Nat}{c:Lb}{W:World}{p:Nat}{r:Rp Op}(h:RV i c W p r):p<W.heap.size:=by
 obtain⟨_,_,_,_,_,h1,_⟩:=h.ex;exact h1.lt
theorem RV.keep {i:Nat}{c c':Lb}{W W':World}{p:Nat}{r:Rp Op}(h:RV i c W p r)(hc:Lx W c c')(hb: ∀k,k<W.heap.size→(1≤c k∧c k≤3)∨(10+10*i≤c k∧c k≤15+10*i)→W'.heap[k]?=W.heap[k]?):RV i c' W' p r:=by
 obtain⟨h1,lv,hv,ov,sv,uv,h2,h3⟩:=h
 exact⟨(hc p h2.lt).trans h1,lv,hv,ov,sv,uv,(hb p h2.lt Z11).trans h2,h3.keep hc fun k hk hl=>hb k hk Z11⟩
theorem RV.below {i:Nat}{c c':Lb}{W W':World}{p:Nat}{r:Rp Op}(h:RV i c W p r)(hc:Lx W c c')(hb:Below W.heap.size W W'):RV i c' W' p r:=h.keep hc fun k hk _=>hb.block k hk
theorem RP.below {i:Nat}{c c':Lb}{W W':World}{r:Rp Op}{lv hv ov sv uv:Value}(h:RP i c W r lv hv ov sv uv)(hc:Lx W c c')(hb:Below W.heap.size W W'):RP i c' W' r lv hv ov sv uv:=h.keep hc fun k hk _=>hb.block k hk
def Fi (i:Nat):Nat→Prop:=fun k=>10+10*i≤k∧k≤15+10*i
theorem Row.app {α:Type}{E:Ek α}(hE:E.Ok){c:Lb}{lo:Nat}{W:World}{v xv z:Value}{l m:List α}{t ty:TypeId}{by_:Nat}(h:Row E c lo W v l)(ht:Tryz.prog.underlying t=some (.slice E.ty))(hi:(Tryz.prog.info? E.ty).map (fun i=>(i.zero,i.size,i.bytes))=some (some z,E.sz,by_))
 (hzs:z.cells.size=E.sz) (hx: ∃us,Inn E c W m us∧Rd W E.sz xv m.length (flat E m us)) (hlo: ¬E.lab lo) (hn:(l.length+m.length)*by_≤140737488355328) (h63:l.length+m.length≤maxLen):
 ∃v' W',(Builtin.append_ #[t,t] ty #[v,xv]).run Tryz.prog W= .ok v' W'∧Lx W c (c.row v' lo)∧Row E (c.row v' lo) lo W' v' (l++m)∧Fr (fun k=>k=lo) c W W'∧(∀k,k<W.heap.size→v.ownBlock≠some k→W'.heap[k]?=W.heap[k]?):=by
 obtain⟨⟨vs,h1,h2⟩,h3⟩:=h
 obtain⟨us,g1,g2⟩:=hx
 obtain⟨i0,hi0,hz0,hz1,hz2⟩:=info_parts hi
 obtain⟨v',W',hrun,ho,hg,hb⟩:=app_run (P:=Tryz.prog) W t ty E.ty 0 i0 z E.sz by_ ht hi0 hz0 hz1 hz2 hzs hE.pos v l.length (flat E l vs) h2 xv m.length (flat E m us) g2 (flat_one hE m us g1.1 g1.2) h63 hn (Nat.zero_le _)
 have hlx:Lx W c (c.row v' lo):=fun k hk=>by
  unfold Lb.row
  split
  ·rename_i e
   rcases hb with hb|hb
   ·rw[hb] at e;exact(h3 k e).symm
   ·rw[hb] at e;cases e;omega
  ·rfl
 have hfr:Fr (fun k=>k=lo) c W W':=(Fr.refl _ c W).grown hg fun k e hk=>h3 k e
 refine⟨v',W',hrun,hlx,⟨⟨vs++us,?_,?_⟩,fun g hg=>if_pos hg⟩,hfr,fun k hk hne=>hg.block k hk fun e=>hne e.symm⟩
 ·exact((h1.append g1).keep hE hlx fun k hk hl=>hfr.block k hk fun e=>hlo (e▸hl))
 ·rw[List.length_append,flat_append E h1.1];exact ho
end Go.Proofs.YtdmjegelcdghlaaGreat.Vw
