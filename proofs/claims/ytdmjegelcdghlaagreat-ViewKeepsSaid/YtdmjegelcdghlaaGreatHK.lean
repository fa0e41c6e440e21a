/-
  ViewKeeps: the row 'ViewKeepsSaid' is proved: for every input the call returns true and each argument reads as it did.
-/
import Derived.Test.YtdmjegelcdghlaaGreatGIh
import Derived.Test.YtdmjegelcdghlaaGreatGLb
import Derived.Deep.MidRow
import Derived.Test.YtdmjegelcdghlaaGreatGGen
import Derived.Deep.CutRange
import Derived.Test.YtdmjegelcdghlaaGreatGLift
set_option maxRecDepth 100000
set_option maxHeartbeats 64000000
set_option linter.unusedVariables false
set_option linter.unusedSimpArgs false
namespace Go.Proofs.YtdmjegelcdghlaaGreat
theorem YK14 {p:Prop}(h:p:=by
 by_cases e:k=x.m.fr
 ·rw[e,upd_same,upd_same]
  exact⟨hx.vv,Nat.zero_le _⟩
 ·rw[upd_ne _ _ e,upd_ne _ _ e]
  exact K k hk):p:=h
end Go.Proofs.YtdmjegelcdghlaaGreat
namespace Go.Proofs.YtdmjegelcdghlaaGreat.Vw
variable {O:Type}
def KI (n:Nat)(h:Gh O)(vw:Nat→Nat)(v l:Nat→Nat):Prop:= ∀k,k<n→v k≤vw k∧l k≤h.A (v k) k
def noteV (v:Nat→Nat)(m:Ms O):Nat→Nat:=if v m.fr<m.vw then upd v m.fr m.vw else v
def noteL (v l:Nat→Nat)(m:Ms O):Nat→Nat:=
 let l1:=if v m.fr<m.vw then upd l m.fr 0 else l
 if m.kd=2∧m.vw=noteV v m m.fr then upd l1 m.fr (max (l1 m.fr) m.ls) else l1
theorem KI.note {n:Nat}{ok:O→Bool}{h:Gh O}{vw v l:Nat→Nat}(K:KI n h vw v l){x:Sd O}(hx:MI n ok h vw x):KI n h vw (noteV v x.m) (noteL v l x.m):=by
 have h1:KI n h vw (noteV v x.m) (if v x.m.fr<x.m.vw then upd l x.m.fr 0 else l):=by
  intro k hk
  unfold noteV
  by_cases hc:v x.m.fr<x.m.vw
  ·rw[if_pos hc,if_pos hc]
   exact YK14
  ·rw[if_neg hc,if_neg hc]
   exact K k hk
 unfold noteL
 dsimp only
 by_cases hc:x.m.kd=2∧x.m.vw=noteV v x.m x.m.fr
 ·rw[if_pos hc]
  intro k hk
  by_cases e:k=x.m.fr
  ·rw[e,upd_same]
   have h2:=h1 x.m.fr hx.fr
   refine⟨h2.1,Nat.max_le.2 ⟨h2.2,?_⟩⟩
   rw[←hc.2]
   rcases hx.kd with⟨g,_⟩|g|⟨g,_⟩|⟨g,_⟩|⟨g,_⟩
   ·omega
   ·exact g.2.2.2.2.2.2.2
   all_goals omega
  ·rw[upd_ne _ _ e]
   exact h1 k hk
 ·rw[if_neg hc]
  exact h1
theorem KI.gon {n:Nat}{h h':Gh O}{g g':Gp O}{v l:Nat→Nat}(K:KI n h (fun k=>(g.r k).vw) v l)(G:Gon n h h' g g'):KI n h' (fun k=>(g'.r k).vw) v l:=fun k hk=>
 ⟨Nat.le_trans (K k hk).1 (G.vv k hk),Nat.le_trans (K k hk).2 (G.ee.a _ _)⟩
theorem KI.test {ok:O→Bool}{N:Nat}{h:Gh O}{g:Gp O}{v l:Nat→Nat}(K:KI g.n h (fun k=>(g.r k).vw) v l)(G:GI ok N h g){k:Nat}(hk:k<g.n):
 v k≤(g.r k).vw∧((g.r k).nr=v k→l k≤(g.r k).ls)∧(g.r k).nr≤(g.r k).vw∧(g.r k).bs≤(g.r k).td∧(g.r k).td≤(g.r k).cm∧(g.r k).cm≤(g.r k).ls∧(g.r k).ls-(g.r k).bs=(g.r k).log.length:=by
 have r:=G.al.rep k hk
 refine⟨(K k hk).1,fun e=> ?_,G.al.core.le k hk,r.od.1,r.od.2.1,r.od.2.2.1,by have:=r.ls;omega⟩
 have h1:=(K k hk).2
 rw[←e] at h1
 have h2:h.A (g.r k).nr k=(g.r k).ls:=G.al.core.al k hk
 omega
open Go.RowKit Go.Maps
def nB (n:Nat)(v:Nat→Nat):List Value:=(List.range n).map fun k=> .int .i64 (v k:Int)
theorem nB_at {n:Nat}(v:Nat→Nat){i:Nat}(hi:i<n):(nB n v)[i]?=some (.int .i64 (v i:Int)):=by
 unfold nB
 rw[List.getElem?_map,List.getElem?_range hi];rfl
theorem nB_set {n:Nat}(v:Nat→Nat){i:Nat}(hi:i<n)(x:Nat):(nB n v).set i (.int .i64 (x:Int))=nB n (upd v i x):=by
 refine List.ext_getElem? fun j=> ?_
 rw[List.getElem?_set]
 have hl:(nB n v).length=n:=by simp[nB]
 by_cases hj:j<n
 ·by_cases e:i=j
  ·subst e
   rw[if_pos rfl,if_pos (by omega),nB_at _ hj,upd_same]
  ·rw[if_neg e,nB_at _ hj,nB_at _ hj,upd_ne _ _ (Ne.symm e)]
 ·have h1: ∀u:Nat→Nat,(nB n u)[j]?=none:=fun u=>List.getElem?_eq_none (by simp[nB];omega)
  rw[h1,h1]
  by_cases e:i=j
  ·omega
  ·rw[if_neg e]
theorem nB_zero (n:Nat):nB n (fun _=>0)=List.replicate n (.int .i64 0):=by
 unfold nB
 rw[List.map_const',List.length_range];rfl
theorem LW.side {w W W':World}{gp e N:Nat}{l:List Ev}{v:Value}{c c':Lb}{h:Gh Op}{g:Gp Op}(L:LW w W gp l v e c N h g)(hx:Lx W c c')(hf:Fr (fun l=>l=301) c W W'):LW w W' gp l v e c' N h g:=
 ⟨L.lx.trans hx L.b.size,L.b.trans (hf.below L.b.size fun j hj e=>by rw[L.lx j hj] at e;have e2:(300:Nat)=301:=e;omega),L.gv.keep (by have:=L.d.n;omega) hx fun k hk hl=>hf.block k hk fun e=>by rw[e] at hl;unfold Gl at hl;omega,L.d,L.s.fr evE_ok hx hf fun k hk e=>by
  rcases hk with hk|hk
  ·have h1:k=300:=hk
   omega
  ·omega⟩
structure KV (c:Lb)(W:World)(bv bl n:Nat)(v lst:Nat→Nat):Prop where
 v:Blk W bv 3 (nB n v)
 l:Blk W bl 3 (nB n lst)
 ne:bv≠bl
 lv:c bv=301
 ll:c bl=301
theorem KV.next {c c':Lb}{W W':World}{bv bl n:Nat}{v lst:Nat→Nat}(K:KV c W bv bl n v lst)(hx:Lx W c c')(hf:Fr Fg c W W'):KV c' W' bv bl n v lst:=
 ⟨(hf.block bv K.v.lt (by rw[K.lv];unfold Fg;omega)).trans K.v,(hf.block bl K.l.lt (by rw[K.ll];unfold Fg;omega)).trans K.l,K.ne,(hx bv K.v.lt).trans K.lv,(hx bl K.l.lt).trans K.ll⟩
theorem KV.below {c:Lb}{W W':World}{bv bl n:Nat}{v lst:Nat→Nat}(K:KV c W bv bl n v lst)(hb:Below W.heap.size W W'):KV c W' bv bl n v lst:=
 ⟨K.v.below hb K.v.lt,K.l.below hb K.l.lt,K.ne,K.lv,K.ll⟩
structure KW2 (w W:World)(gp:Nat)(l:List Ev)(vv:Value)(e:Nat)(c:Lb)(N:Nat)(h:Gh Op)(g:Gp Op)(bv bl n:Nat)(v lst:Nat→Nat):Prop where
 w:LW w W gp l vv e c N h g
 k:KV c W bv bl n v lst
 i:KI n h (fun k=>(g.r k).vw) v lst
 n:g.n=n
theorem KW2.new {w W:World}{gp e N bv bl n:Nat}{l:List Ev}{vv:Value}{c:Lb}{h:Gh Op}{g:Gp Op}{v lst:Nat→Nat}(K:KW2 w W gp l vv e c N h g bv bl n v lst)(o:Obj): ∃c',KW2 w (W.alloc o) gp l vv e c' N h g bv bl n v lst∧c' W.heap.size=301∧Lx W c c':=by
 have hb:Below W.heap.size W (W.alloc o):=(Below.refl _ _).alloc (Nat.le_refl _) _
 have hx:Lx W c (fun j=>if j<W.heap.size then c j else 301):=fun j hj=>if_pos hj
 refine⟨_,⟨K.w.side hx (Fr.of_below hb),⟨K.k.v.below hb K.k.v.lt,K.k.l.below hb K.k.l.lt,K.k.ne,(hx bv K.k.v.lt).trans K.k.lv,(hx bl K.k.l.lt).trans K.k.ll⟩,K.i,K.n⟩,if_neg (Nat.lt_irrefl _),hx⟩
theorem KW2.drewN {w W:World}{gp e N bv bl n:Nat}{l:List Ev}{vv:Value}{c:Lb}{h:Gh Op}{g:Gp Op}{v lst:Nat→Nat}(K:KW2 w W gp l vv e c N h g bv bl n v lst)(q:Nat):KW2 w (W.drewN q) gp l vv e c N h g bv bl n v lst:=
 ⟨K.w.below (below_drewN (Below.refl _ _) q),K.k.below (below_drewN (Below.refl _ _) q),K.i,K.n⟩
theorem KW2.below {w W W':World}{gp e N bv bl n:Nat}{l:List Ev}{vv:Value}{c:Lb}{h:Gh Op}{g:Gp Op}{v lst:Nat→Nat}(K:KW2 w W gp l vv e c N h g bv bl n v lst)(hb:Below W.heap.size W W'):KW2 w W' gp l vv e c N h g bv bl n v lst:=
 ⟨K.w.below hb,K.k.below hb,K.i,K.n⟩
theorem KW2.sets {w W:World}{gp e N bv bl n:Nat}{l:List Ev}{vv:Value}{c:Lb}{h:Gh Op}{g:Gp Op}{v lst v2 lst2:Nat→Nat}(K:KW2 w W gp l vv e c N h g bv bl n v lst){W':World}(hx:W'.os=W.os∧W'.tape=W.tape∧W'.output=W.output∧W'.heap.size=W.heap.size)(hf: ∀k,k≠bv→k≠bl→W'.heap[k]?=W.heap[k]?)
 (h1:Blk W' bv 3 (nB n v2)) (h2:Blk W' bl 3 (nB n lst2)) (hi:KI n h (fun k=>(g.r k).vw) v2 lst2):KW2 w W' gp l vv e c N h g bv bl n v2 lst2:=by
 have hfr:Fr (fun l=>l=301) c W W':=⟨hx.1,hx.2.1,hx.2.2.1,by rw[hx.2.2.2];exact Nat.le_refl _,fun k hk hn=>hf k (fun e=>hn (by rw[e];exact K.k.lv)) (fun e=>hn (by rw[e];exact K.k.ll))⟩
 exact⟨K.w.side (Lx.refl _ _) hfr,⟨h1,h2,K.k.ne,K.k.lv,K.k.ll⟩,hi,K.n⟩
theorem KW2.grow {w W W':World}{gp e N bv bl n:Nat}{l:List Ev}{vv:Value}{c:Lb}{h:Gh Op}{g:Gp Op}{v lst:Nat→Nat}(K:KW2 w W gp l vv e c N h g bv bl n v lst)(hb:Below W.heap.size W W'): ∃c',KW2 w W' gp l vv e c' N h g bv bl n v lst∧Lx W c c':=by
 have hx:Lx W c (fun j=>if j<W.heap.size then c j else 301):=fun j hj=>if_pos hj
 exact⟨_,⟨K.w.side hx (Fr.of_below hb),⟨K.k.v.below hb K.k.v.lt,K.k.l.below hb K.k.l.lt,K.k.ne,(hx bv K.k.v.lt).trans K.k.lv,(hx bl K.k.l.lt).trans K.k.ll⟩,K.i,K.n⟩,hx⟩
def zeroM:List Value:= [.int .i64 0,.int .i64 0,.int .i64 0,.int .i64 0,.int .i64 0,.slice none 0 0,.int .i64 0,.int .i64 0,.int .i64 0]
theorem ms_size (m:Ms Op)(u:Value):(Tryz.prog.info? 37).map (·.size)=some (msC m u).length:=by kernel_rfl
theorem ms_one (m:Ms Op)(a:Option Addr)(n c:Nat): ∀u∈msC m (.slice a n c),u.oneCell'=true:=by
 intro u hu
 unfold msC at hu
 simp only[List.mem_cons,List.not_mem_nil,or_false] at hu
 rcases hu with rfl|rfl|rfl|rfl|rfl|rfl|rfl|rfl|rfl<;>rfl
theorem wpList_storeM {P:Program}{ops:Array Oper}{rest:List Oper}{o:Oper}{a:Act}{w:World}{Q:Exit→Act→World→Prop}(hgd:o.guard=none)(ty:TypeId)(x y:Operand)(ho:o.op= .store ty x y)
 (g:Nat) (cs:List Value) (hx:a.eval x= .pointer (some ⟨g,0,none⟩)) (hy:a.eval y= .agg cs.toArray)
 (t:TypeId) (old:List Value) (hg:Blk w g t old) (hi:(P.info? ty).map (·.size)=some cs.length)
 (hold:old.length=cs.length) (h1: ∀u∈cs,u.oneCell'=true)
 (h: ∀w',Blk w' g t cs→w.grownBy w' (some g)→wpList P ops Q rest (a.put o.dst undef) w'):wpList P ops Q (o::rest) a w:=by
 refine wpList_store_row hgd ty x y ho g cs.toArray hx hy t old.toArray hg (by simpa using hi) (by simpa using hold) ?_ ?_
 ·rw[Array.all_eq_true_iff_forall_mem]
  intro u hu
  exact h1 u (by simpa using hu)
 ·refine h _ ?_ ?_
  ·exact setRow_heap w g _ cs.toArray t _ hg
  ·exact⟨rfl,rfl,rfl,by simp[World.setRow],fun k hk hne=>setRow_other w g k _ (fun e=>hne (by rw[e]))⟩
theorem lists_new {w W:World}{gp m:Nat}{l:List Ev}{vv:Value}{c:Lb}{h:Gh Op}(L:LW w W gp l vv 0 c 0 h (gp0 m)): ∃c',∀bv bl,(bv=W.heap.size∧bl=W.heap.size+1)∨(bv=W.heap.size+1∧bl=W.heap.size)→KW2 w ((W.alloc (.cells (Array.replicate m (.int .i64 0)) 3)).alloc (.cells (Array.replicate m (.int .i64 0)) 3)).drew gp l vv 0 c' 0 h (gp0 m) bv bl m (fun _=>0) (fun _=>0):=by
 have e1:Array.replicate m (Value.int .i64 0)=(nB m fun _=>0).toArray:=by rw[nB_zero];simp
 rw[e1]
 have s1:(W.alloc (.cells (nB m fun _=>0).toArray 3)).heap.size=W.heap.size+1:=World.size_alloc _ _
 have hb0:Below W.heap.size W (W.alloc (.cells (nB m fun _=>0).toArray 3)):=(Below.refl _ _).alloc (Nat.le_refl _) _
 have hb:Below W.heap.size W ((W.alloc (.cells (nB m fun _=>0).toArray 3)).alloc (.cells (nB m fun _=>0).toArray 3)).drew:=below_drewN (hb0.alloc (by rw[s1];omega) _) 1
 have hx:Lx W c (fun j=>if j<W.heap.size then c j else 301):=fun j hj=>if_pos hj
 have k1:Blk ((W.alloc (.cells (nB m fun _=>0).toArray 3)).alloc (.cells (nB m fun _=>0).toArray 3)).drew W.heap.size 3 (nB m fun _=>0):=((Blk.new W 3 (nB m fun _=>0)).alloc _).drew
 have k2:Blk ((W.alloc (.cells (nB m fun _=>0).toArray 3)).alloc (.cells (nB m fun _=>0).toArray 3)).drew (W.heap.size+1) 3 (nB m fun _=>0):=by
  have:=Blk.new (W.alloc (.cells (nB m fun _=>0).toArray 3)) 3 (nB m fun _=>0)
  rw[s1] at this
  exact this.drew
 refine⟨_,fun bv bl ho=>⟨L.side hx (Fr.of_below hb),?_,fun k hk=>⟨Nat.zero_le _,Nat.zero_le _⟩,rfl⟩⟩
 rcases ho with⟨rfl,rfl⟩|⟨rfl,rfl⟩
 ·exact⟨k1,k2,by omega,if_neg (by omega),if_neg (by omega)⟩
 ·exact⟨k2,k1,by omega,if_neg (by omega),if_neg (by omega)⟩
theorem KI.up {n N:Nat}{ok:Op→Bool}{h:Gh Op}{vw v l:Nat→Nat}(K:KI n h vw v l){x:Sd Op}(hx:MI n ok h vw x):KI n h vw (upd v x.m.fr x.m.vw) (upd l x.m.fr 0):=by
 intro k hk
 exact YK14
theorem KI.more {n:Nat}{ok:Op→Bool}{h:Gh Op}{vw v l:Nat→Nat}(K:KI n h vw v l){x:Sd Op}(hx:MI n ok h vw x)(hk2:x.m.kd=2)(hv:x.m.vw=v x.m.fr):KI n h vw v (upd l x.m.fr (max (l x.m.fr) x.m.ls)):=by
 have h1:=K.note hx
 have hn:noteV v x.m=v:=by unfold noteV;rw[if_neg (by omega)]
 have hl:noteL v l x.m=upd l x.m.fr (max (l x.m.fr) x.m.ls):=by
  unfold noteL
  dsimp only
  rw[hn,if_pos ⟨hk2,hv⟩,if_neg (by omega)]
 rw[hn,hl] at h1
 exact h1
theorem KW2.put {w W:World}{gp e N bv bl n:Nat}{l:List Ev}{vv:Value}{c:Lb}{h:Gh Op}{g:Gp Op}{v lst:Nat→Nat}(K:KW2 w W gp l vv e c N h g bv bl n v lst){fr:Nat}(hf:fr<n)(x y:Nat)(hi:KI n h (fun k=>(g.r k).vw) (upd v fr x) (upd lst fr y)):
 KW2 w ((W.setCell ⟨bv,fr,none⟩ (.int .i64 (x:Int))).setCell ⟨bl,fr,none⟩ (.int .i64 (y:Int))) gp l vv e c N h g bv bl n (upd v fr x) (upd lst fr y):=by
 refine K.sets ⟨rfl,rfl,rfl,by rw[World.size_setCell,World.size_setCell]⟩ (fun k h1 h2=> ?_) ?_ ?_ hi
 ·rw[Below.heap_setCell _ _ _ _ h2,Below.heap_setCell _ _ _ _ h1]
 ·have h1:=K.k.v.set fr (.int .i64 (x:Int))
  rw[nB_set v hf] at h1
  exact h1.setOther _ _ K.k.ne
 ·have h1:=(K.k.l.setOther ⟨bv,fr,none⟩ (.int .i64 (x:Int)) (Ne.symm K.k.ne)).set fr (.int .i64 (y:Int))
  rw[nB_set lst hf] at h1
  exact h1
theorem KW2.putl {w W:World}{gp e N bv bl n:Nat}{l:List Ev}{vv:Value}{c:Lb}{h:Gh Op}{g:Gp Op}{v lst:Nat→Nat}(K:KW2 w W gp l vv e c N h g bv bl n v lst){fr:Nat}(hf:fr<n){z:Int}(y:Nat)(hz:z=(y:Int))(hi:KI n h (fun k=>(g.r k).vw) v (upd lst fr y)):
 KW2 w (W.setCell ⟨bl,fr,none⟩ (.int .i64 z)) gp l vv e c N h g bv bl n v (upd lst fr y):=by
 subst hz
 refine K.sets ⟨rfl,rfl,rfl,by rw[World.size_setCell]⟩ (fun k h1 h2=> ?_) ?_ ?_ hi
 ·rw[Below.heap_setCell _ _ _ _ h2]
 ·exact K.k.v.setOther _ _ K.k.ne
 ·have h1:=K.k.l.set fr (.int .i64 (y:Int))
  rw[nB_set lst hf] at h1
  exact h1
def stC (r:Rp Op):List Value:= [.int .i64 (r.id:Int),.int .i64 (r.n:Int),.int .i64 (r.st:Int),.int .i64 (r.vw:Int),.int .i64 (r.nr:Int),.int .i64 (r.bs:Int),.int .i64 (r.td:Int),.int .i64 (r.cm:Int),.int .i64 (r.sb:Int),.int .i64 (r.ls:Int)]
def zeroS:List Value:= [.int .i64 0,.int .i64 0,.int .i64 0,.int .i64 0,.int .i64 0,.int .i64 0,.int .i64 0,.int .i64 0,.int .i64 0,.int .i64 0]
theorem st_size (r:Rp Op):(Tryz.prog.info? 39).map (·.size)=some (stC r).length:=by kernel_rfl
theorem st_one (r:Rp Op): ∀u∈stC r,u.oneCell'=true:=by
 intro u hu
 unfold stC at hu
 simp only[List.mem_cons,List.not_mem_nil,or_false] at hu
 rcases hu with rfl|rfl|rfl|rfl|rfl|rfl|rfl|rfl|rfl|rfl<;>rfl
theorem ops_any {i:Nat}{c:Lb}{r:Rp Op}(p:Nat)(w:World)(h:RV i c w p r)(hl:r.log.length≤1000000):
 Calls Tryz.prog 16 #[.pointer (some ⟨p,0,none⟩)] w fun e w'=> ∃v,e= .returned v∧NewO w.heap.size w' v r.log∧Below w.heap.size w w':=by
 obtain⟨lv,hv,xv,sv,uv,hbp,hrp⟩:=h.ex
 have y10:=hbp.cell 10 rfl
 have HO:=Lib.hid (own_any r.log lv w hrp.lg.sl (by omega))
 obtain⟨la,lc,el⟩:=hrp.lg.slice
 subst el
 clear hbp hrp h hl
 go_enter Tryz.func16,Tryz.ntmps16
 go_wp2_with fail
 refine HO.out.mono ?_
 rintro e w1 ⟨v1,rfl,h1,h2⟩
 have HD:=Lib.hid (And.intro h1 h2)
 obtain⟨a1,c1,e1⟩:=h1.slice
 subst e1
 clear h1 h2
 go_wp2_with fail
 go_ret
 exact⟨_,rfl,HD.out⟩
end Go.Proofs.YtdmjegelcdghlaaGreat.Vw
namespace Go.Proofs.YtdmjegelcdghlaaGreat
theorem YK15 {p:Prop}(h:p:=by
 go_simp
 refine HOP.out.mono ?_
 rintro e w10 ⟨v10,rfl,hno,hb10⟩
 obtain⟨a10,c10,rfl⟩:=hno.slice
 have HB10:=Lib.hid (((Below.refl w7.heap.size w7).drew).trans hb10)
 clear hno hb10
 go_wp2_with fail
 refine hK.out _ _ ?_ (fun hHeld2=> ?_)
 ·exact HB10.out
 clear hK
 try simp only[ap]
 refine tkH 67 ?_ (y:=YK1)
 try simp only[ap]
 refine tkH 68 ?_ (y:=YK1)
 try simp only[ap]
 refine tkH 69 ?_ (y:=YK1)
 try simp only[ap]
 exact YK9):p:=h
theorem YK13 {p:Prop}(h:p:=by kernel_rfl):p:=h
theorem YK12 {p:Prop}(h:p:=by
 go_upto_region 20 with fail
 go_quiet (fail)
 go_wp2_with fail
 exact⟨⟨j+1,rfl,_,_,_,HK9.out.1.drewN _⟩,by have:=HJ.out;simp[intOf];omega⟩):p:=h
theorem YK11 {p:Prop}(h:p:=by refine Or.inl ⟨by rfl,?_⟩;intro W hSw;(try dsimp only at hSw);(have z0:=(HC7.out _ hSw).2.2.2.1;clear hSw);go_simp;(try with_reducible rfl)):p:=h
theorem YK10 {p:Prop}(h:p:=by refine Or.inl ⟨by rfl,?_⟩;intro W hSw;(try dsimp only at hSw);(have z0:=(HC7.out _ hSw).2.2.2.2;clear hSw);go_simp;(try with_reducible rfl)):p:=h
theorem YK9 {p:Prop}(h:p:=by
 refine wpAnyH_done (by kernel_rfl) ?_ _
 obtain⟨c11,hk11,-⟩:=HK7.out.1.grow HB10.out
 have HK11:=Lib.hid hk11
 clear hk11 HOP HC7
 go_wp2_with fail
 exact⟨⟨q+1,HQ.out,rfl,_,_,_,HK11.out⟩,by have:=HQ.out;simp[intOf];omega⟩):p:=h
theorem YK8 {p:Prop}(h:p:=by refine Or.inl ⟨by rfl,?_⟩;intro W hSw;(try dsimp only at hSw);(have z0:=(HC7.out _ hSw).2.1;clear hSw);go_simp;(try with_reducible rfl)):p:=h
theorem YK7 {p:Prop}(h:p:=by refine Or.inl ⟨by rfl,?_⟩;intro W hSw;(try dsimp only at hSw);(have z0:=(HC7.out _ hSw).1 3 _ rfl;clear hSw);go_simp;(try with_reducible rfl)):p:=h
theorem YK6 {p:Prop}(h:p:=by refine Or.inl ⟨by rfl,?_⟩;intro W hSw;(try dsimp only at hSw);(have z0:=(HC7.out _ hSw).1 4 _ rfl;clear hSw);go_simp;(try with_reducible rfl)):p:=h
theorem YK5 {p:Prop}(h:p:=by refine Or.inl ⟨by rfl,?_⟩;intro W hSw;(try dsimp only at hSw);(have z0:=(HC7.out _ hSw).1 5 _ rfl;clear hSw);go_simp;(try with_reducible rfl)):p:=h
theorem YK4 {p:Prop}(h:p:=by refine Or.inl ⟨by rfl,?_⟩;intro W hSw;(try dsimp only at hSw);(have z0:=(HC7.out _ hSw).1 6 _ rfl;clear hSw);go_simp;(try with_reducible rfl)):p:=h
theorem YK3 {p:Prop}(h:p:=by refine Or.inl ⟨by rfl,?_⟩;intro W hSw;(try dsimp only at hSw);(have z0:=(HC7.out _ hSw).1 7 _ rfl;clear hSw);go_simp;(try with_reducible rfl)):p:=h
theorem YK2 {p:Prop}(h:p:=by refine Or.inl ⟨by rfl,?_⟩;intro W hSw;(try dsimp only at hSw);(have z0:=(HC7.out _ hSw).1 9 _ rfl;clear hSw);go_simp;(try with_reducible rfl)):p:=h
theorem YK1 {p:Prop}(h:p:=by refine Or.inl ⟨by rfl,?_⟩;intro W hSw;(try dsimp only at hSw);(clear hSw);go_simp;(try with_reducible rfl)):p:=h
end Go.Proofs.YtdmjegelcdghlaaGreat
namespace Go.Proofs.YtdmjegelcdghlaaGreat.Vw
open Go.RowKit Go.Maps
theorem viewKeeps_walk (n:Int)(v:Value)(l:List Ev)(w:World)(hs:SlR evE (fun _=>300) 300 w v l)(hl:l.length≤4611686018427387904):
 Calls Tryz.prog 8 #[.int .i64 n,v] w fun e w'=>e= .returned (.bool true)∧Below w.heap.size w w':=by
 obtain⟨va,vc,ev⟩:=hs.slice
 subst ev
 have HS:=Lib.hid (And.intro hs hl)
 have HZ:=Lib.hid (size_any n w)
 clear hs hl
 go_enter Tryz.func8,Tryz.ntmps8
 go_wp2_with fail
 refine HZ.out.mono ?_
 rintro e w1 ⟨m,hm1,hm5,rfl,rfl⟩
 have HM:=Lib.hid (And.intro hm1 hm5)
 have HMD:=Lib.hid (made_any m (fun _=>300) w1 ⟨hm1,hm5⟩ (fun _ _=>by decide))
 clear HZ hm1 hm5
 go_wp2_with fail
 refine HMD.out.mono ?_
 rintro e w2 ⟨gp,rfl,hgp,hb2,c2,hx2,hv2⟩
 obtain⟨h0,hd0⟩:=DI.zero m HM.out
 have HL2:=Lib.hid (show LW w1 w2 gp l (.slice va l.length vc) 0 c2 0 h0 (gp0 m) from⟨hx2,hb2,hv2,hd0,(HS.out.1.keep evE_ok hx2 fun j hj _=>hb2.block j hj)⟩)
 have HKN:=Lib.hid (known_any w2)
 clear HMD hgp hb2 hx2 hv2 hd0
 go_wp2_with fail
 refine HKN.out.mono ?_
 rintro e w3 ⟨rfl,hb3⟩
 have HL3:=Lib.hid (HL2.out.below hb3)
 clear HL2 HKN hb3
 obtain⟨ps,br,cr,bk,ck,bs,cs,wv,bt,ct,ov,ss,hB,hG,hL,-⟩:=HL3.out.gv.opn HL3.out.d.n.1
 have y0:=hB.cell 0 rfl
 rw[show(gp0 m:Gp Op).n=m from rfl] at y0
 have HY:=Lib.hid hB.lt
 clear hB hG hL
 have hmi:=make_ints m (by have:=HM.out;omega)
 go_upto_region 4 with fail
 go_cut [6,7] from 35 (fun v6 v7 wx=> ∃bv bl c,v6= .slice (some ⟨bv,0,none⟩) m m∧v7= .slice (some ⟨bl,0,none⟩) m m∧KW2 w1 wx gp l (.slice va l.length vc) 0 c 0 h0 (gp0 m) bv bl m (fun _=>0) (fun _=>0))
 case first=>
  have y0b:(w3.alloc (.cells (Array.replicate m (.int .i64 0)) 3)).cell? ⟨gp,0,none⟩=_:=(cell_eq (Lib.alloc_old w3 _ gp HY.out) 0).trans y0
  have y0c:((w3.alloc (.cells (Array.replicate m (.int .i64 0)) 3)).drew).cell? ⟨gp,0,none⟩=_:=y0b
  have y0d:w3.drew.cell? ⟨gp,0,none⟩=_:=y0
  go_region
  all_goals(go_wp2_with fail)
  all_goals(go_meet)
  ·obtain⟨c',hk⟩:=lists_new HL3.out
   exact⟨_,_,c',rfl,rfl,hk _ _ (.inl ⟨rfl,rfl⟩)⟩
  ·obtain⟨c',hk⟩:=lists_new HL3.out
   exact⟨_,_,c',rfl,rfl,hk _ _ (.inr ⟨rfl,rfl⟩)⟩
 case rest=>
  obtain⟨bv,bl,c4,rfl,rfl,hk4⟩:=hcut
  have HK4:=Lib.hid hk4
  clear hk4 HL3 HY hmi y0
  go_wp2_with fail
  go_loopw [8,9,10,11,12,13] (fun iv _ _ _ _ _ wr=> ∃k:Nat,k≤l.length∧k≤150∧iv= .int .i64 (k:Int)∧ ∃c N h g v lst,KW2 w1 wr gp l (.slice va l.length vc) k c N h g bv bl m v lst) (fun iv _ _ _ _ _ _=>l.length-(intOf iv).toNat)
  case atStart=>exact⟨0,Nat.zero_le _,Nat.zero_le _,rfl,_,_,_,_,_,_,HK4.out⟩
  case round=>
   obtain⟨k,hk,hk150,rfl,c,N,h,g,v,lst,hkw⟩:=hrel
   have HL:=Lib.hid hkw
   clear hkw HK4
   by_cases hkl:k<l.length
   case neg=>
    have t1: ¬(k:Int)<(l.length:Int):=by omega
    clear hk hk150 hkl
    go_wp2_with fail
    go_ret
    exact⟨rfl,HL.out.w.b⟩
   case pos=>
   have t1:(k:Int)<(l.length:Int):=by omega
   by_cases hk2:k<150
   case neg=>
    have t2: ¬(k:Int)<150:=by omega
    clear hk hk150 hkl hk2
    go_wp2_with fail
    go_ret
    exact⟨rfl,HL.out.w.b⟩
   case pos=>
   have t2:(k:Int)<150:=by omega
   obtain⟨x,hx⟩: ∃x,l[k]?=some x:=⟨_,List.getElem?_eq_getElem hkl⟩
   obtain⟨b,off,cap,ev,hea,hb,hcl⟩:=ev_cells HL.out.w.s hx
   cases ev
   have HX:=Lib.hid (And.intro hb hcl)
   have HEA:=Lib.hid hea
   have HKL:=Lib.hid (And.intro hkl hk2)
   have HGT:Hid (Calls Tryz.prog 25 #[.agg (evC x).toArray] wr fun e w'=>e= .returned (.bool (greatE x.o x.m.ops))∧Below wr.heap.size wr w'):=Lib.hid (great_any (li:=300) (lo:=300) x.ek x.ew x.ep x.o x.oa x.oc x.m (.slice x.ma x.m.ops.length x.mc) wr hea.m (Nat.le_trans hea.o.sz (by decide)) hea.l)
   have HSZ:=Lib.hid (ev_size x)
   clear hx hea hb hcl hk hk150 hkl hk2
   go_wp2_with (refine wpList_load_mid rfl 62 (.tmp 47) rfl b (off+k*28) rfl (evC x) _ HX.out.2 Tryz.underlying62 rfl HSZ.out ?_)
   refine HGT.out.mono ?_
   rintro e w4 ⟨rfl,hb4⟩
   have HB4:=Lib.hid hb4
   have HL4:=Lib.hid (HL.out.below hb4)
   clear hb4 HGT
   cases hg:greatE x.o x.m.ops
   case true=>
    go_wp2_with fail
    go_ret
    exact⟨rfl,HL4.out.w.b⟩
   case false=>
   have HG:=Lib.hid hg
   clear hg
   have z0:w4.cell? ⟨b,off+k*28,none⟩=some (.int .i64 x.ek):=(range_below HX.out.2 HB4.out HX.out.1) 0 _ rfl
   have HX4:=Lib.hid (range_below HX.out.2 HB4.out HX.out.1)
   by_cases h7:x.ek=7
   case pos=>
    have k7:(x.ek==7)=true:=by simp[h7]
    go_wp2_with fail
    have h4:=HKL.out
    exact⟨⟨k+1,h4.1,h4.2,rfl,_,_,_,_,_,_,⟨HL4.out.w.up (by omega),HL4.out.k,HL4.out.i,HL4.out.n⟩⟩,by simp[intOf];omega⟩
   case neg=>
    have k7:(x.ek==7)=false:=by simp[h7]
    obtain⟨ps,br,cr,bk,ck,bs,cs,wv,bt,ct,ov,ss,hB,hG,hLb,-⟩:=HL4.out.w.gv.opn HL4.out.w.d.n.1
    obtain⟨wa,wc,ew⟩:=hG.w.slice
    subst ew
    have y3:=hB.cell 3 rfl
    have HD:Hid (Calls Tryz.prog 26 #[.pointer (some ⟨gp,0,none⟩),.agg (evC x).toArray] w4 fun e' w'=>e'= .returned (.bool true)∧ ∃g',Mg c w4 w' gp g'∧DG k h g g'):=Lib.hid (do_any x.ek x.ew x.ep x.o x.oa x.oc x.m x.ma x.mc w4 HL4.out.w.gv HL4.out.w.d (by have:=HKL.out;omega) ((evE_ok.keep _ _ _ _ undef x HEA.out (Lx.refl wr c) fun j hj _=>HB4.out.block j hj:EvA c w4 x).tx HG.out) (by unfold Fg;omega))
    clear h7 hB hG hLb
    go_wp2_with (refine wpList_load_mid rfl 62 (.tmp 64) rfl b (off+k*28) rfl (evC x) _ HX4.out Tryz.underlying62 rfl HSZ.out ?_)
    refine HD.out.mono ?_
    rintro e w5 ⟨rfl,g5,hm5,h5,N5,hd5,hg5⟩
    have HK5:Hid (∃c5,KW2 w1 w5 gp l (.slice (some ⟨b,off,none⟩) l.length vc) (k+1) c5 N5 h5 g5 bv bl m v lst):=Lib.hid (by
     obtain⟨c5,h6,hx6,hf6⟩:=HL4.out.w.next hm5 hd5
     have hgn:=HL4.out.n
     have hg6:Gon g.n h h5 g g5:=hg5
     exact⟨c5,h6,HL4.out.k.next hx6 hf6,by have:=HL4.out.i;rw[←hgn] at this⊢;exact this.gon hg6,by rw[←hgn];exact hg6.nn⟩)
    clear HD hm5 hd5 hg5 z0 y3
    have hws:max 0 (wrap64 ((g.way.length:Int)-1))=((g.way.length-1:Nat):Int):=by
     have h1:=HL4.out.w.d.way
     rw[IntWalk.wrap64_in _ (by omega)]
     omega
    have HWS:=Lib.hid hws
    clear hws
    go_wp2_with fail
    rw[HWS.out]
    go_loopw [10,11] (fun iv _ wr=> ∃j:Nat,iv= .int .i64 (j:Int)∧ ∃c v lst,KW2 w1 wr gp l (.slice (some ⟨b,off,none⟩) l.length vc) (k+1) c N5 h5 g5 bv bl m v lst) (fun iv _ _=>g5.way.length-(intOf iv).toNat)
    case atStart=>
     obtain⟨c5,h⟩:=HK5.out
     exact⟨_,rfl,_,_,_,h⟩
    case round=>
     rename_i wrA _ _ wr
     obtain⟨j,rfl,c6,v6,l6,hkw⟩:=hrel
     have HK6:=Lib.hid hkw
     clear hkw
     obtain⟨ps,br,cr,bk,ck,bs,cs,wv,bt,ct,ov,ss,hB,hG,hLb,-⟩:=HK6.out.w.gv.opn HK6.out.w.d.n.1
     obtain⟨wa,wc,ew⟩:=hG.w.slice
     subst ew
     have y3:=hB.cell 3 rfl
     by_cases hj:j<g5.way.length
     case neg=>
      have t3: ¬(j:Int)<(g5.way.length:Int):=by omega
      clear hB hG hLb hj
      go_wp2_with fail
      go_loopw [12,13] (fun iv _ wq=> ∃q:Nat,q≤m∧iv= .int .i64 (q:Int)∧ ∃c8 v8 l8,KW2 w1 wq gp l (.slice (some ⟨b,off,none⟩) l.length vc) (k+1) c8 N5 h5 g5 bv bl m v8 l8) (fun iv _ _=>m-(intOf iv).toNat)
      case atStart=>exact⟨0,Nat.zero_le _,rfl,_,_,_,HK6.out⟩
      case round=>
       obtain⟨q,hqm,rfl,c8,v8,l8,hkw⟩:=hrel
       have HK8:=Lib.hid hkw
       clear hkw y3
       have hg5n:g5.n=m:=HK8.out.n
       obtain⟨ps,br,cr,bk,ck,bs,cs,wv,bt,ct,ov,ss,hB,hG,hLb,-⟩:=HK8.out.w.gv.opn HK8.out.w.d.n.1
       have y0:=hB.cell 0 rfl
       rw[hg5n] at y0
       by_cases hq:q<m
       case neg=>
        have t6: ¬(q:Int)<(m:Int):=by omega
        clear hB hG hLb hqm hq hg5n
        go_wp2_with fail
        have h4:=HKL.out
        exact⟨⟨k+1,h4.1,h4.2,rfl,_,_,_,_,_,_,HK8.out⟩,by simp[intOf];omega⟩
       case pos=>
       have t6:(q:Int)<(m:Int):=by omega
       have t7:(q:Int)<5:=by have:=HM.out;omega
       have yp:=(hG.cells (i:=q) (by omega)).1
       have HST:=Lib.hid (stand_any (i:=q) (ps q) _ (hG.rp q (by omega)))
       have HQ:=Lib.hid hq
       clear hB hG hLb hqm hq hg5n
       go_wp2_with fail
       refine HST.out.mono ?_
       rintro e wa ⟨rfl,hba⟩
       have HBA:=Lib.hid hba
       have HSS:=Lib.hid (st_size (g5.r q))
       have HSO:=Lib.hid (st_one (g5.r q))
       have HZS:Hid (Blk (wa.alloc (.cells zeroS.toArray 39)) wa.heap.size 39 zeroS):=Lib.hid (Blk.new wa 39 _)
       clear y0 yp hba HST
       go_wp2_with (refine wpList_storeM rfl 39 (.tmp 13) (.tmp 147) rfl wa.heap.size (stC (g5.r q)) rfl rfl 39 zeroS HZS.out HSS.out rfl HSO.out (fun w7 hB7 hg7=> ?_))
       have hb7:Below wa.heap.size wa w7:=below_app (v:= .slice (some ⟨wa.heap.size,0,none⟩) 0 0) (Below.refl _ _) (Nat.le_refl _) hg7 (fun k e=>by cases e;exact Nat.le_refl _)
       obtain⟨c7,hk7,-⟩:=HK8.out.grow (HBA.out.trans (hb7.mono HBA.out.size))
       have HK7:=Lib.hid (And.intro hk7 hB7)
       have hT:=hk7.i
       rw[←hk7.n] at hT
       have HT:=Lib.hid (hT.test hk7.w.d.gi (k:=q) (by rw[hk7.n];exact HQ.out))
       clear hk7 hg7 hb7 hT HZS HSS HSO HK8
       have hg5n:g5.n=m:=HK7.out.1.n
       obtain⟨ps,br,cr,bk,ck,bs,cs,wv,bt,ct,ov,ss,hB,hG,hLb,hbr,-⟩:=HK7.out.1.w.gv.opn HK7.out.1.w.d.n.1
       have y0:=hB.cell 0 rfl
       rw[hg5n] at y0
       have hq:=HQ.out
       have yp:=(hG.cells (i:=q) (by omega)).1
       have HOP:=Lib.hid (ops_any (i:=q) (ps q) w7.drew ((hG.rp q (by omega)).keep (W':=w7.drew) (Lx.refl w7 c7) fun _ _ _=>rfl) (by have h1:=HK7.out.1.w.d.gi.sgN (HK7.out.1.w.d.gi.rep (i:=q) (by omega)).sg;have h2:=HK7.out.1.w.d.N;have h3:=HK7.out.1.w.d.le;omega))
       have HC7:Hid (∀W,Below w7.heap.size w7 W→(∀(j:Nat) x,(stC (g5.r q))[j]?=some x→W.cell? ⟨wa.heap.size,j,none⟩=some x)∧W.cell? ⟨bv,q,none⟩=some (.int .i64 (v8 q:Int))∧W.cell? ⟨bl,q,none⟩=some (.int .i64 (l8 q:Int))∧W.cell? ⟨gp,0,none⟩=some (.slice (some ⟨br,0,none⟩) m cr)∧W.cell? ⟨br,q,none⟩=some (.pointer (some ⟨ps q,0,none⟩))):=Lib.hid fun W hb=>⟨fun j x hx=>(HK7.out.2.below hb HK7.out.2.lt).cell j hx,(HK7.out.1.k.v.below hb HK7.out.1.k.v.lt).cell q (nB_at v8 hq),(HK7.out.1.k.l.below hb HK7.out.1.k.l.lt).cell q (nB_at l8 hq),(cell_eq (hb.block gp hB.lt) 0).trans y0,(cell_eq (hb.block br hbr) q).trans yp⟩
       have t9: ¬((g5.r q).vw:Int)<(v8 q:Int):=by have:=HT.out.1;omega
       have t10: ¬((g5.r q).vw:Int)<((g5.r q).nr:Int):=by have:=HT.out.2.2.1;omega
       have t11: ¬((g5.r q).td:Int)<((g5.r q).bs:Int):=by have:=HT.out.2.2.2.1;omega
       have t12: ¬((g5.r q).cm:Int)<((g5.r q).td:Int):=by have:=HT.out.2.2.2.2.1;omega
       have t13: ¬((g5.r q).ls:Int)<((g5.r q).cm:Int):=by have:=HT.out.2.2.2.2.2.1;omega
       have hlw:IntKind.i64.wrap (((g5.r q).ls:Int)-((g5.r q).bs:Int))=((g5.r q).log.length:Int):=by
        have h1:=HT.out.2.2.2
        have h2:=HK7.out.1.w.d.gi.sgN (HK7.out.1.w.d.gi.rep (i:=q) (by omega)).sg
        have h3:=HK7.out.1.w.d.N
        have h4:=HK7.out.1.w.d.le
        rw[IntWalk.i64_in _ (by omega)]
        omega
       have b9:(IntKind.i64.wrap (((g5.r q).ls:Int)-((g5.r q).bs:Int)) !=((g5.r q).log.length:Int))=false:=by
        rw[hlw];simp
       clear hB hG hLb hbr hg5n hq y0 yp hlw
       go_upto_region 26 with fail
       by_cases k1:(g5.r q).nr=v8 q
       case pos=>
        have b1:(((g5.r q).nr:Int)==(v8 q:Int))=true:=by rw[beq_iff_eq];omega
        have t14: ¬((g5.r q).ls:Int)<(l8 q:Int):=by have:=HT.out.2.1 k1;omega
        clear k1
        as_aux_lemma=>
        refine wp_region_held_drew (S:=(fun W=>Below w7.heap.size w7 W)) YK13 ?_ (fun hHeld1=> ?_)
        ·exact(Below.refl _ _).drew
        refine tkH 0 ?_ (y:=YK1)
        try simp only[ap]
        refine tkH 1 ?_ (y:=YK7)
        try simp only[ap]
        refine tkH 2 ?_ (y:=YK1)
        try simp only[ap]
        refine tkH 3 ?_ (y:=YK1)
        try simp only[ap]
        refine tkH 4 ?_ (y:=YK1)
        try simp only[ap]
        refine tkH 5 ?_ (y:=YK8)
        try simp only[ap]
        refine tkH 6 ?_ (y:=YK1)
        try simp only[ap]
        refine tkH 7 ?_ (y:=YK1)
        try simp only[ap]
        refine tkH 8 ?_ (y:=YK1)
        try simp only[ap]
        refine tkH 9 ?_ (y:=YK6)
        try simp only[ap]
        refine tkH 10 ?_ (y:=YK1)
        try simp only[ap]
        refine tkH 11 ?_ (y:=YK1)
        try simp only[ap]
        refine tkH 12 ?_ (y:=YK1)
        try simp only[ap]
        refine tkH 13 ?_ (y:=YK8)
        try simp only[ap]
        refine tkH 14 ?_ (y:=YK1)
        try simp only[ap]
        refine tkH 15 ?_ (y:=YK1)
        try simp only[ap]
        refine tkH 16 ?_ (y:=YK1)
        try simp only[ap]
        refine tkH 17 ?_ (y:=YK2)
        try simp only[ap]
        refine tkH 18 ?_ (y:=YK1)
        try simp only[ap]
        refine tkH 19 ?_ (y:=YK1)
        try simp only[ap]
        refine tkH 20 ?_ (y:=YK1)
        try simp only[ap]
        refine tkH 21 ?_ (y:=by refine Or.inl ⟨by rfl,?_⟩;intro W hSw;(try dsimp only at hSw);(have z0:=(HC7.out _ hSw).2.2.1;clear hSw);go_simp;(try with_reducible rfl))
        try simp only[ap]
        refine tkH 22 ?_ (y:=YK1)
        try simp only[ap]
        refine tkH 23 ?_ (y:=YK1)
        try simp only[ap]
        refine tkH 24 ?_ (y:=YK1)
        try simp only[ap]
        refine tkH 25 ?_ (y:=YK1)
        try simp only[ap]
        refine tkH 26 ?_ (y:=YK1)
        try simp only[ap]
        refine tkH 27 ?_ (y:=YK6)
        try simp only[ap]
        refine tkH 28 ?_ (y:=YK1)
        try simp only[ap]
        refine tkH 29 ?_ (y:=YK7)
        try simp only[ap]
        refine tkH 30 ?_ (y:=YK1)
        try simp only[ap]
        refine tkH 31 ?_ (y:=YK1)
        try simp only[ap]
        refine tkH 32 ?_ (y:=YK1)
        try simp only[ap]
        refine tkH 33 ?_ (y:=YK1)
        try simp only[ap]
        refine tkH 34 ?_ (y:=YK5)
        try simp only[ap]
        refine tkH 35 ?_ (y:=YK1)
        try simp only[ap]
        refine tkH 36 ?_ (y:=YK4)
        try simp only[ap]
        refine tkH 37 ?_ (y:=YK1)
        try simp only[ap]
        refine tkH 38 ?_ (y:=YK1)
        try simp only[ap]
        refine tkH 39 ?_ (y:=YK1)
        try simp only[ap]
        refine tkH 40 ?_ (y:=YK1)
        try simp only[ap]
        refine tkH 41 ?_ (y:=YK4)
        try simp only[ap]
        refine tkH 42 ?_ (y:=YK1)
        try simp only[ap]
        refine tkH 43 ?_ (y:=YK3)
        try simp only[ap]
        refine tkH 44 ?_ (y:=YK1)
        try simp only[ap]
        refine tkH 45 ?_ (y:=YK1)
        try simp only[ap]
        refine tkH 46 ?_ (y:=YK1)
        try simp only[ap]
        refine tkH 47 ?_ (y:=YK1)
        try simp only[ap]
        refine tkH 48 ?_ (y:=YK3)
        try simp only[ap]
        refine tkH 49 ?_ (y:=YK1)
        try simp only[ap]
        refine tkH 50 ?_ (y:=YK2)
        try simp only[ap]
        refine tkH 51 ?_ (y:=YK1)
        try simp only[ap]
        refine tkH 52 ?_ (y:=YK1)
        try simp only[ap]
        refine tkH 53 ?_ (y:=YK1)
        try simp only[ap]
        refine tkH 54 ?_ (y:=YK1)
        try simp only[ap]
        refine tkH 55 ?_ (y:=YK2)
        try simp only[ap]
        refine tkH 56 ?_ (y:=YK1)
        try simp only[ap]
        refine tkH 57 ?_ (y:=YK5)
        try simp only[ap]
        refine tkH 58 ?_ (y:=YK1)
        try simp only[ap]
        refine tkH 59 ?_ (y:=YK1)
        try simp only[ap]
        refine tkH 60 ?_ (y:=YK1)
        try simp only[ap]
        refine tkH 61 ?_ (y:=YK1)
        try simp only[ap]
        refine tkH 62 ?_ (y:=YK11)
        try simp only[ap]
        refine tkH 63 ?_ (y:=YK1)
        try simp only[ap]
        refine tkH 64 ?_ (y:=YK1)
        try simp only[ap]
        refine tkH 65 ?_ (y:=YK10)
        try simp only[ap]
        refine wpAnyH_ready (rs:= [66]) YK13 (by simp) ?_
        refine AllReadyH.cons (o:= ?oi67) ?hi67 (fun K hK=> ?hs67) AllReadyH.nil
        case hi67=>(simp only[List.getElem?_toArray,List.getElem?_cons_succ,List.getElem?_cons_zero];rfl)
        exact YK15
       case neg=>
        have b1:(((g5.r q).nr:Int)==(v8 q:Int))=false:=by rw[beq_eq_false_iff_ne];omega
        clear k1
        as_aux_lemma=>
        refine wp_region_held_drew (S:=(fun W=>Below w7.heap.size w7 W)) YK13 ?_ (fun hHeld1=> ?_)
        ·exact(Below.refl _ _).drew
        refine tkH 0 ?_ (y:=YK1)
        try simp only[ap]
        refine tkH 1 ?_ (y:=YK7)
        try simp only[ap]
        refine tkH 2 ?_ (y:=YK1)
        try simp only[ap]
        refine tkH 3 ?_ (y:=YK1)
        try simp only[ap]
        refine tkH 4 ?_ (y:=YK1)
        try simp only[ap]
        refine tkH 5 ?_ (y:=YK8)
        try simp only[ap]
        refine tkH 6 ?_ (y:=YK1)
        try simp only[ap]
        refine tkH 7 ?_ (y:=YK1)
        try simp only[ap]
        refine tkH 8 ?_ (y:=YK1)
        try simp only[ap]
        refine tkH 9 ?_ (y:=YK6)
        try simp only[ap]
        refine tkH 10 ?_ (y:=YK1)
        try simp only[ap]
        refine tkH 11 ?_ (y:=YK1)
        try simp only[ap]
        refine tkH 12 ?_ (y:=YK1)
        try simp only[ap]
        refine tkH 13 ?_ (y:=YK8)
        try simp only[ap]
        refine tkH 14 ?_ (y:=YK1)
        try simp only[ap]
        refine tkH 15 ?_ (y:=YK1)
        try simp only[ap]
        refine tkH 16 ?_ (v:=undef) (y:=Or.inr ⟨by rfl,rfl⟩)
        try simp only[ap]
        refine tkH 17 ?_ (v:=undef) (y:=Or.inr ⟨by rfl,rfl⟩)
        try simp only[ap]
        refine tkH 18 ?_ (v:=undef) (y:=Or.inr ⟨by rfl,rfl⟩)
        try simp only[ap]
        refine tkH 19 ?_ (v:=undef) (y:=Or.inr ⟨by rfl,rfl⟩)
        try simp only[ap]
        refine tkH 20 ?_ (v:=undef) (y:=Or.inr ⟨by rfl,rfl⟩)
        try simp only[ap]
        refine tkH 21 ?_ (v:=undef) (y:=Or.inr ⟨by rfl,rfl⟩)
        try simp only[ap]
        refine tkH 22 ?_ (v:=undef) (y:=Or.inr ⟨by rfl,rfl⟩)
        try simp only[ap]
        refine tkH 23 ?_ (y:=YK1)
        try simp only[ap]
        refine tkH 24 ?_ (y:=YK1)
        try simp only[ap]
        refine tkH 25 ?_ (y:=YK1)
        try simp only[ap]
        refine tkH 26 ?_ (y:=YK1)
        try simp only[ap]
        refine tkH 27 ?_ (y:=YK6)
        try simp only[ap]
        refine tkH 28 ?_ (y:=YK1)
        try simp only[ap]
        refine tkH 29 ?_ (y:=YK7)
        try simp only[ap]
        refine tkH 30 ?_ (y:=YK1)
        try simp only[ap]
        refine tkH 31 ?_ (y:=YK1)
        try simp only[ap]
        refine tkH 32 ?_ (y:=YK1)
        try simp only[ap]
        refine tkH 33 ?_ (y:=YK1)
        try simp only[ap]
        refine tkH 34 ?_ (y:=YK5)
        try simp only[ap]
        refine tkH 35 ?_ (y:=YK1)
        try simp only[ap]
        refine tkH 36 ?_ (y:=YK4)
        try simp only[ap]
        refine tkH 37 ?_ (y:=YK1)
        try simp only[ap]
        refine tkH 38 ?_ (y:=YK1)
        try simp only[ap]
        refine tkH 39 ?_ (y:=YK1)
        try simp only[ap]
        refine tkH 40 ?_ (y:=YK1)
        try simp only[ap]
        refine tkH 41 ?_ (y:=YK4)
        try simp only[ap]
        refine tkH 42 ?_ (y:=YK1)
        try simp only[ap]
        refine tkH 43 ?_ (y:=YK3)
        try simp only[ap]
        refine tkH 44 ?_ (y:=YK1)
        try simp only[ap]
        refine tkH 45 ?_ (y:=YK1)
        try simp only[ap]
        refine tkH 46 ?_ (y:=YK1)
        try simp only[ap]
        refine tkH 47 ?_ (y:=YK1)
        try simp only[ap]
        refine tkH 48 ?_ (y:=YK3)
        try simp only[ap]
        refine tkH 49 ?_ (y:=YK1)
        try simp only[ap]
        refine tkH 50 ?_ (y:=YK2)
        try simp only[ap]
        refine tkH 51 ?_ (y:=YK1)
        try simp only[ap]
        refine tkH 52 ?_ (y:=YK1)
        try simp only[ap]
        refine tkH 53 ?_ (y:=YK1)
        try simp only[ap]
        refine tkH 54 ?_ (y:=YK1)
        try simp only[ap]
        refine tkH 55 ?_ (y:=YK2)
        try simp only[ap]
        refine tkH 56 ?_ (y:=YK1)
        try simp only[ap]
        refine tkH 57 ?_ (y:=YK5)
        try simp only[ap]
        refine tkH 58 ?_ (y:=YK1)
        try simp only[ap]
        refine tkH 59 ?_ (y:=YK1)
        try simp only[ap]
        refine tkH 60 ?_ (y:=YK1)
        try simp only[ap]
        refine tkH 61 ?_ (y:=YK1)
        try simp only[ap]
        refine tkH 62 ?_ (y:=YK11)
        try simp only[ap]
        refine tkH 63 ?_ (y:=YK1)
        try simp only[ap]
        refine tkH 64 ?_ (y:=YK1)
        try simp only[ap]
        refine tkH 65 ?_ (y:=YK10)
        try simp only[ap]
        refine wpAnyH_ready (rs:= [66]) YK13 (by simp) ?_
        refine AllReadyH.cons (o:= ?oi137) ?hi137 (fun K hK=> ?hs137) AllReadyH.nil
        case hi137=>(simp only[List.getElem?_toArray,List.getElem?_cons_succ,List.getElem?_cons_zero];rfl)
        exact YK15
     case pos=>
      have t3:(j:Int)<(g5.way.length:Int):=by omega
      obtain⟨x6,hx6⟩: ∃x6,g5.way[j]?=some x6:=⟨_,List.getElem?_eq_getElem hj⟩
      obtain⟨bw,qw,u6,ew6,hbw,hcw,hin,hcl,-⟩:=Row.at (sdE_ok 3) hG.w hx6
      cases ew6
      obtain⟨ua6,uc6,eu6⟩:=(SdI.s hin).slice
      subst eu6
      have HRG:Hid (World.rangeAt wr bw (j*10+1) (msC x6.m (.slice ua6 x6.m.ops.length uc6))):=Lib.hid fun q u hq=>by
       have h1:=hcl (q+1) u hq
       rw[show j*(sdE 3).sz+(q+1)=j*10+1+q by show j*10+(q+1)=_;omega] at h1
       exact h1
      have HMI:=Lib.hid (HK6.out.w.d.gi.wy x6 (List.mem_of_getElem? hx6))
      have HMS:=Lib.hid (ms_size x6.m (.slice ua6 x6.m.ops.length uc6))
      have HON:=Lib.hid (ms_one x6.m ua6 x6.m.ops.length uc6)
      have HZB:Hid (Blk (wr.alloc (.cells zeroM.toArray 37)) wr.heap.size 37 zeroM):=Lib.hid (Blk.new wr 37 _)
      have HJ:=Lib.hid hj
      clear hB hG hLb hj hx6 hbw hcw hin hcl
      go_upto_region 18 with(first|refine wpList_load_mid rfl 37 (.tmp 86) rfl bw (j*10+1) rfl (msC x6.m (.slice ua6 x6.m.ops.length uc6)) _ HRG.out Tryz.underlying37 rfl HMS.out ?_|refine wpList_storeM rfl 37 (.tmp 11) (.tmp 87) rfl wr.heap.size (msC x6.m (.slice ua6 x6.m.ops.length uc6)) rfl rfl 37 zeroM HZB.out HMS.out rfl HON.out (fun w7 hB7 hg7=> ?_))
      have hb7:Below wr.heap.size wr w7:=below_app (v:= .slice (some ⟨wr.heap.size,0,none⟩) 0 0) (Below.refl _ _) (Nat.le_refl _) hg7 (fun k e=>by cases e;exact Nat.le_refl _)
      obtain⟨c7,hk7,hx7⟩:=HK6.out.grow hb7
      have hfm:x6.m.fr<m:=by have h1:=HMI.out.fr;have h2:=HK6.out.n;omega
      have q1:w7.cell? ⟨wr.heap.size,1,none⟩=some (.int .i64 (x6.m.fr:Int)):=hB7.cell 1 rfl
      have q2:w7.cell? ⟨wr.heap.size,2,none⟩=some (.int .i64 (x6.m.vw:Int)):=hB7.cell 2 rfl
      have pv:w7.cell? ⟨bv,x6.m.fr,none⟩=some (.int .i64 (v6 x6.m.fr:Int)):=hk7.k.v.cell x6.m.fr (nB_at v6 hfm)
      have t4:(x6.m.fr:Int)<(m:Int):=by omega
      have HK7:=Lib.hid (And.intro hk7 (And.intro hB7 hfm))
      clear hb7 hx7 hk7 hB7 hg7 HRG HMS HON HZB hfm
      try simp only[Act.put]
      go_quiet (fail)
      have HK8:Hid (KW2 w1 (w7.drewN nq) gp l (.slice (some ⟨b,off,none⟩) l.length vc) (k+1) c7 N5 h5 g5 bv bl m v6 l6∧Blk (w7.drewN nq) wr.heap.size 37 (msC x6.m (.slice ua6 x6.m.ops.length uc6))):=Lib.hid ⟨HK7.out.1.drewN nq,HK7.out.2.1.drewN nq⟩
      generalize w7.drewN nq=w8 at*
      clear q1 q2 pv
      go_upto_if 95 with fail
      go_cut [] from 86 to 105 (fun wx=> ∃c9 v9 l9,KW2 w1 wx gp l (.slice (some ⟨b,off,none⟩) l.length vc) (k+1) c9 N5 h5 g5 bv bl m v9 l9∧Blk wx wr.heap.size 37 (msC x6.m (.slice ua6 x6.m.ops.length uc6)))
      case first=>
       by_cases hgt:v6 x6.m.fr<x6.m.vw
       case pos=>
        have t5:(v6 x6.m.fr:Int)<(x6.m.vw:Int):=by omega
        go_upto_region 19 with fail
        have n1:wr.heap.size≠bv:=by have:=HK6.out.k.v.lt;omega
        have n2:wr.heap.size≠bl:=by have:=HK6.out.k.l.lt;omega
        have q1:w8.cell? ⟨wr.heap.size,1,none⟩=some (.int .i64 (x6.m.fr:Int)):=HK8.out.2.cell 1 rfl
        have q2:w8.cell? ⟨wr.heap.size,2,none⟩=some (.int .i64 (x6.m.vw:Int)):=HK8.out.2.cell 2 rfl
        have pv:w8.cell? ⟨bv,x6.m.fr,none⟩=some (.int .i64 (v6 x6.m.fr:Int)):=HK8.out.1.k.v.cell x6.m.fr (nB_at v6 HK7.out.2.2)
        have pl:w8.cell? ⟨bl,x6.m.fr,none⟩=some (.int .i64 (l6 x6.m.fr:Int)):=HK8.out.1.k.l.cell x6.m.fr (nB_at l6 HK7.out.2.2)
        have fv:w8.frozen? ⟨bv,x6.m.fr,none⟩=false:=HK8.out.1.k.v.frozen _
        have fl:w8.frozen? ⟨bl,x6.m.fr,none⟩=false:=HK8.out.1.k.l.frozen _
        have n3:=HK8.out.1.k.ne
        have n4:bl≠bv:=Ne.symm n3
        go_region
        all_goals(go_wp2_with fail)
        all_goals(go_meet)
        ·have h1:=(HK8.out.1.put HK7.out.2.2 x6.m.vw 0 (HK8.out.1.i.up (N:=0) (by have h2:=HMI.out;rw[HK8.out.1.n] at h2;exact h2))).drewN 1
         exact⟨c7,_,_,h1,((HK8.out.2.setOther _ _ n1).setOther _ _ n2).drewN 1⟩
       case neg=>
        have t5: ¬(v6 x6.m.fr:Int)<(x6.m.vw:Int):=by omega
        go_wp2_with fail
        go_meet
        exact⟨c7,v6,l6,HK8.out.1,HK8.out.2⟩
      case rest=>
       obtain⟨c9,v9,l9,hk9,hb9⟩:=hcut
       have HK9:=Lib.hid (And.intro hk9 hb9)
       clear hk9 hb9 HK8
       have q0:wc.cell? ⟨wr.heap.size,0,none⟩=some (.int .i64 (x6.m.kd:Int)):=HK9.out.2.cell 0 rfl
       have q1:wc.cell? ⟨wr.heap.size,1,none⟩=some (.int .i64 (x6.m.fr:Int)):=HK9.out.2.cell 1 rfl
       have q2:wc.cell? ⟨wr.heap.size,2,none⟩=some (.int .i64 (x6.m.vw:Int)):=HK9.out.2.cell 2 rfl
       have pv:wc.cell? ⟨bv,x6.m.fr,none⟩=some (.int .i64 (v9 x6.m.fr:Int)):=HK9.out.1.k.v.cell x6.m.fr (nB_at v9 HK7.out.2.2)
       have t8:(j:Int)<30000:=by have h1:=HK9.out.1.w.d.way;have h2:=HJ.out;omega
       by_cases k2:x6.m.kd=2
       case neg=>
        have b2:((x6.m.kd:Int)==2)=false:=by rw[beq_eq_false_iff_ne];omega
        clear k2
        exact YK12
       case pos=>
       have b2:((x6.m.kd:Int)==2)=true:=by rw[beq_iff_eq];omega
       by_cases k3:x6.m.vw=v9 x6.m.fr
       case neg=>
        have b3:((x6.m.vw:Int)==(v9 x6.m.fr:Int))=false:=by rw[beq_eq_false_iff_ne];omega
        clear k2 k3
        exact YK12
       case pos=>
        have b3:((x6.m.vw:Int)==(v9 x6.m.fr:Int))=true:=by rw[beq_iff_eq];omega
        have HKK:=Lib.hid (And.intro k2 k3)
        clear k2 k3
        go_upto_region 20 with fail
        go_quiet (fail)
        have HK10:Hid (KW2 w1 (wc.drewN nq) gp l (.slice (some ⟨b,off,none⟩) l.length vc) (k+1) c9 N5 h5 g5 bv bl m v9 l9∧Blk (wc.drewN nq) wr.heap.size 37 (msC x6.m (.slice ua6 x6.m.ops.length uc6))):=Lib.hid ⟨HK9.out.1.drewN nq,HK9.out.2.drewN nq⟩
        generalize wc.drewN nq=w9 at*
        clear q0 q1 q2 pv
        go_upto_region 21 with fail
        have q1:w9.cell? ⟨wr.heap.size,1,none⟩=some (.int .i64 (x6.m.fr:Int)):=HK10.out.2.cell 1 rfl
        have q8:w9.cell? ⟨wr.heap.size,8,none⟩=some (.int .i64 (x6.m.ls:Int)):=HK10.out.2.cell 8 rfl
        have pl:w9.cell? ⟨bl,x6.m.fr,none⟩=some (.int .i64 (l9 x6.m.fr:Int)):=HK10.out.1.k.l.cell x6.m.fr (nB_at l9 HK7.out.2.2)
        have fl:w9.frozen? ⟨bl,x6.m.fr,none⟩=false:=HK10.out.1.k.l.frozen _
        go_region
        all_goals(go_wp2_with fail)
        ·exact⟨⟨j+1,rfl,_,_,_,(HK10.out.1.putl HK7.out.2.2 (max (l9 x6.m.fr) x6.m.ls) (by omega) (HK10.out.1.i.more (by have h2:=HMI.out;rw[HK10.out.1.n] at h2;exact h2) HKK.out.1 HKK.out.2)).drewN 1⟩,by have:=HJ.out;simp[intOf];omega⟩
end Go.Proofs.YtdmjegelcdghlaaGreat.Vw
namespace Go.Proofs.YtdmjegelcdghlaaGreat.viewKeeps
open Go.ChangeShapes Go.WideShapes Go.ChangeAt Go.RowKit Go.ChangeMaps
theorem contract (H:Type)(enc:TypeId×Value→H)(W:World)(base:Nat)(args:Array Value)(ds gs:List (DataW H))(before:List MemPlace)
 (hval: ∀(j:Nat) t v,Tryz.f8.params[j]?=some t→args[j]?=some v→Value.okWide Tryz.prog W .any base t v)
 (hW:DataW.Whole enc Tryz.prog Tryz.f8.params.toList Rows.viewKeepsSpec.vars false W args.toList ds gs before)
 (hz:(DataW.weightsEach Tryz.prog (Tryz.f8.params.toList++Rows.viewKeepsSpec.plain.varTypes Tryz.prog) (ds++gs)).all (· ≤reachBytes)=true):
 Calls Tryz.prog 8 args W fun e W'=> ∃v,e= .returned v∧Rows.viewKeepsSpec.post enc Tryz.prog Tryz.f8 false true false false W args v W':=by
 have hW':=hW
 obtain⟨p,q,hA0,hV,rfl,hfz,hnd⟩:=hW
 have hA:DataW.TrodAll enc Tryz.prog W 0 (fun _=>true) true Tryz.f8.params.toList args.toList ds p:=hA0
 rw[Tryz.params8] at hA hval
 obtain⟨v0,vs0,d0,ds0,p0,q0,hargs,rfl,rfl,h0,r0⟩:=trodAll_cons hA
 obtain⟨v1,vs1,d1,ds1,p1,q1,rfl,rfl,rfl,h1,r1⟩:=trodAll_cons r0
 obtain⟨rfl,rfl,rfl⟩:=trodAll_nil r1
 obtain rfl:args= #[v0,v1]:=by cases args;simp_all
 obtain⟨rfl,rfl⟩:=trodVars_none hV
 obtain⟨a0,rfl,rfl,rfl,w0⟩:=open_int Tryz.underlying3 (hval 0 3 v0 rfl rfl) h0
 obtain⟨l1,n1,z1⟩:=Vw.open_evs (hval 1 56 v1 rfl rfl) h1 (fun m hm=>by have:=List.all_eq_true.1 hz _ (DataW.weights_mem_each (j:=1) rfl rfl m hm);simpa using this)
 refine(Vw.viewKeeps_walk a0 v1 l1 W n1 z1).mono fun e W' ⟨he,hb⟩=> ?_
 subst he
 exact⟨_,rfl,law_post (tb:=4) hW' Tryz.laidOut rfl YK13 YK13 Tryz.underlying4 rfl hb⟩
theorem lifted (os:Os)(started:os.Started)(H:Type)(enc:TypeId×Value→H):
 ReturnsInHanded {} Tryz.checked os 8 .any (Rows.viewKeepsSpec.pre6 enc Tryz.prog Tryz.f8 Rows.viewKeepsRow.domain false) (Rows.viewKeepsSpec.post enc Tryz.prog Tryz.f8 false true false false):=by
 refine returnsInHanded_of_change_sized (C:=Tryz.checked) Tryz.own started YK13 Tryz.func8
  (ChangeSpec.witness6 (enc:=enc) (C:=Tryz.checked) false ⟨#[],#[.int .i64 0,.slice none 0 0],[]⟩ 8 YK13 YK13 YK13 YK13) ?_
 intro W base args ds gs before hval hW _ hz _
 exact contract H enc W base args ds gs before hval hW hz
theorem proved:Rows.ViewKeepsSaid:=
 OpenClaim.holds_of_wide 8 Tryz.f8 rfl rfl rfl rfl rfl rfl rfl ⟨rfl,rfl,rfl,rfl,rfl⟩ rfl rfl rfl rfl rfl YK13 Tryz.func8 YK13
  (of_decide_eq_true YK13) (by unfold Func.isWrapper;first|(rw[if_pos (by decide+kernel)];kernel_rfl)|(rw[if_neg (by decide+kernel)];exact⟨rfl,rfl⟩))
  (fun os started H enc _=>lifted os started H enc)
end Go.Proofs.YtdmjegelcdghlaaGreat.viewKeeps
