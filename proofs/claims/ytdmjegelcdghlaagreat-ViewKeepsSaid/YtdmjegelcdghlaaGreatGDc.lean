/-
  Chapter 22: lists in memory: every block bears a label; what a call leaves as it is; slices whose elements hold slices.
-/
import Derived.Test.YtdmjegelcdghlaaGreatGGen
import Derived.Test.YtdmjegelcdghlaaGreatGApp
set_option maxRecDepth 100000
set_option maxHeartbeats 64000000
set_option linter.unusedVariables false
set_option linter.unusedSimpArgs false
namespace Go.Proofs.YtdmjegelcdghlaaGreat.Vw
open Go.RowKit Go.Maps
abbrev Lb:=Nat→Nat
def Lx (w:World)(c c':Lb):Prop:= ∀k,k<w.heap.size→c' k=c k
theorem Lx.refl (w:World)(c:Lb):Lx w c c:=fun _ _=>rfl
theorem Lx.trans {w w1:World}{c c1 c2:Lb}(h:Lx w c c1)(g:Lx w1 c1 c2)(hs:w.heap.size≤w1.heap.size):Lx w c c2:=fun k hk=>(g k (Nat.lt_of_lt_of_le hk hs)).trans (h k hk)
structure Fr (F:Nat→Prop)(c:Lb)(w w':World):Prop where
 os:w'.os=w.os
 tape:w'.tape=w.tape
 output:w'.output=w.output
 size:w.heap.size≤w'.heap.size
 block: ∀k,k<w.heap.size→ ¬F (c k)→w'.heap[k]?=w.heap[k]?
theorem Fr.refl (F:Nat→Prop)(c:Lb)(w:World):Fr F c w w:=⟨rfl,rfl,rfl,Nat.le_refl _,fun _ _ _=>rfl⟩
theorem Fr.trans {F:Nat→Prop}{c c1:Lb}{w w1 w2:World}(h:Fr F c w w1)(e:Lx w c c1)(g:Fr F c1 w1 w2):Fr F c w w2:=
 ⟨g.os.trans h.os,g.tape.trans h.tape,g.output.trans h.output,Nat.le_trans h.size g.size,fun k hk hn=>(g.block k (Nat.lt_of_lt_of_le hk h.size) (by rw[e k hk];exact hn)).trans (h.block k hk hn)⟩
theorem Fr.mono {F G:Nat→Prop}{c:Lb}{w w':World}(h:Fr F c w w')(hs: ∀l,F l→G l):Fr G c w w':=⟨h.os,h.tape,h.output,h.size,fun k hk hn=>h.block k hk fun hf=>hn (hs _ hf)⟩
theorem Fr.of_below {F:Nat→Prop}{c:Lb}{w w':World}(h:Below w.heap.size w w'):Fr F c w w':=⟨h.os,h.tape,h.output,h.size,fun k hk _=>h.block k hk⟩
theorem Fr.below {F:Nat→Prop}{c:Lb}{w w':World}{B:Nat}(h:Fr F c w w')(hB:B≤w.heap.size)(hn: ∀k,k<B→ ¬F (c k)):Below B w w':=⟨h.os,h.tape,h.output,h.size,fun k hk=>h.block k (Nat.lt_of_lt_of_le hk hB) (hn k hk)⟩
theorem Fr.drew {F:Nat→Prop}{c:Lb}{w w':World}(h:Fr F c w w'):Fr F c w w'.drew:=⟨h.os,h.tape,h.output,h.size,h.block⟩
theorem Fr.set {F:Nat→Prop}{c:Lb}{w w':World}(h:Fr F c w w')(p:Addr)(v:Value)(hp:p.block<w.heap.size→F (c p.block)):Fr F c w (w'.setCell p v):=by
 refine⟨h.os,h.tape,h.output,by show _≤(w'.heap.modify _ _).size;rw[Array.size_modify];exact h.size,fun k hk hn=> ?_⟩
 have hne:k≠p.block:=fun e=>hn (by rw[e];exact hp (e▸hk))
 rw[Below.heap_setCell _ _ _ _ hne]
 exact h.block k hk hn
theorem Fr.alloc {F:Nat→Prop}{c:Lb}{w w':World}(h:Fr F c w w')(o:Obj):Fr F c w (w'.alloc o):=by
 refine⟨h.os,h.tape,h.output,by rw[World.size_alloc];exact Nat.le_succ_of_le h.size,fun k hk hn=> ?_⟩
 rw[Lib.alloc_old w' o k (Nat.lt_of_lt_of_le hk h.size)]
 exact h.block k hk hn
theorem Fr.grown {F:Nat→Prop}{c:Lb}{w w' w2:World}{row:Option Nat}(h:Fr F c w w')(g:w'.grownBy w2 row)(hr: ∀k,row=some k→k<w.heap.size→F (c k)):Fr F c w w2:=by
 refine⟨g.os.trans h.os,g.tape.trans h.tape,g.output.trans h.output,Nat.le_trans h.size g.size,fun k hk hn=> ?_⟩
 refine(g.block k (Nat.lt_of_lt_of_le hk h.size) fun e=>hn (hr k e.symm hk)).trans (h.block k hk hn)
def LbO (c:Lb)(lo:Nat)(v:Value):Prop:= ∀g,v.ownBlock=some g→c g=lo
structure Ek (α:Type) where
 sz:Nat
 ty:TypeId
 cel:α→Value→List Value
 inn:Lb→World→Value→α→Prop
 lab:Nat→Prop
structure Ek.Ok {α:Type}(E:Ek α):Prop where
 pos:0<E.sz
 len: ∀a u,(E.cel a u).length=E.sz
 one: ∀c W a u,E.inn c W u a→ ∀x∈E.cel a u,x.oneCell'=true
 keep: ∀c c' W W' u a,E.inn c W u a→Lx W c c'→(∀k,k<W.heap.size→E.lab (c k)→W'.heap[k]?=W.heap[k]?)→E.inn c' W' u a
variable {α:Type}
def flat (E:Ek α)(l:List α)(vs:List Value):List Value:=(List.zipWith E.cel l vs).flatten
theorem flat_append (E:Ek α){l m:List α}{vs us:List Value}(h:vs.length=l.length):flat E (l++m) (vs++us)=flat E l vs++flat E m us:=by
 unfold flat
 rw[List.zipWith_append Z11,List.flatten_append]
theorem flat_len {E:Ek α}(hE:E.Ok): ∀(l:List α) (vs:List Value),vs.length=l.length→(flat E l vs).length=l.length*E.sz
 | [],[],_=>by simp[flat]
 |a::l,u::vs,h=>by
  have ih:=flat_len hE l vs (by simpa using h)
  unfold flat at ih⊢
  rw[List.zipWith_cons_cons,List.flatten_cons,List.length_append,ih,hE.len,List.length_cons,Nat.succ_mul,Nat.add_comm]
theorem flat_drop {E:Ek α}(hE:E.Ok): ∀(k:Nat) (l:List α) (vs:List Value),vs.length=l.length→(flat E l vs).drop (k*E.sz)=flat E (l.drop k) (vs.drop k)
 |0,l,vs,_=>by simp
 |k+1,[],[],_=>by simp[flat]
 |k+1,a::l,u::vs,h=>by
  have ih:=flat_drop hE k l vs (by simpa using h)
  rw[List.drop_succ_cons,List.drop_succ_cons,←ih]
  unfold flat
  rw[List.zipWith_cons_cons,List.flatten_cons,Nat.succ_mul,Nat.add_comm,←List.drop_drop,List.drop_left' (hE.len a u)]
theorem flat_take {E:Ek α}(hE:E.Ok): ∀(k:Nat) (l:List α) (vs:List Value),vs.length=l.length→(flat E l vs).take (k*E.sz)=flat E (l.take k) (vs.take k)
 |0,l,vs,_=>by simp[flat]
 |k+1,[],[],_=>by simp[flat]
 |k+1,a::l,u::vs,h=>by
  have ih:=flat_take hE k l vs (by simpa using h)
  rw[List.take_succ_cons,List.take_succ_cons]
  unfold flat at ih⊢
  rw[List.zipWith_cons_cons,List.flatten_cons,List.zipWith_cons_cons,List.flatten_cons,←ih,Nat.succ_mul,Nat.add_comm,List.take_append,hE.len]
  rw[List.take_of_length_le (by rw[hE.len];omega),show E.sz+k*E.sz-E.sz=k*E.sz from Z11]
theorem flat_get {E:Ek α}(hE:E.Ok){k j:Nat}{l:List α}{vs:List Value}(h:vs.length=l.length){a:α}{u x:Value}(ha:l[k]?=some a)(hu:vs[k]?=some u)(hx:(E.cel a u)[j]?=some x):(flat E l vs)[k*E.sz+j]?=some x:=by
 rw[←List.getElem?_drop,flat_drop hE k l vs h]
 have hk:=(List.getElem?_eq_some_iff.1 ha)
 have hk2:=(List.getElem?_eq_some_iff.1 hu)
 rw[List.drop_eq_getElem_cons hk.1,List.drop_eq_getElem_cons hk2.1,hk.2,hk2.2]
 unfold flat
 rw[List.zipWith_cons_cons,List.flatten_cons,List.getElem?_append_left (List.getElem?_eq_some_iff.1 hx).1]
 exact hx
theorem flat_one {E:Ek α}(hE:E.Ok){c:Lb}{W:World}: ∀(l:List α) (vs:List Value),vs.length=l.length→(∀(i:Nat) a u,l[i]?=some a→vs[i]?=some u→E.inn c W u a)→ ∀x∈flat E l vs,x.oneCell'=true
 | [],[],_,_,x,hx=>by simp[flat] at hx
 |a::l,u::vs,h,hi,x,hx=>by
  unfold flat at hx
  rw[List.zipWith_cons_cons,List.flatten_cons,List.mem_append] at hx
  rcases hx with hx|hx
  ·exact hE.one c W a u (hi 0 a u rfl rfl) x hx
  ·exact flat_one hE l vs (by simpa using h) (fun i a u h1 h2=>hi (i+1) a u h1 h2) x hx
def Inn (E:Ek α)(c:Lb)(W:World)(l:List α)(vs:List Value):Prop:=vs.length=l.length∧ ∀(i:Nat) a u,l[i]?=some a→vs[i]?=some u→E.inn c W u a
theorem Inn.keep {E:Ek α}(hE:E.Ok){c c':Lb}{W W':World}{l:List α}{vs:List Value}(h:Inn E c W l vs)(hc:Lx W c c')(hb: ∀k,k<W.heap.size→E.lab (c k)→W'.heap[k]?=W.heap[k]?):Inn E c' W' l vs:=
 ⟨h.1,fun i a u h1 h2=>hE.keep c c' W W' u a (h.2 i a u h1 h2) hc hb⟩
theorem Inn.append {E:Ek α}{c:Lb}{W:World}{l m:List α}{vs us:List Value}(h:Inn E c W l vs)(g:Inn E c W m us):Inn E c W (l++m) (vs++us):=by
 refine⟨by rw[List.length_append,List.length_append,h.1,g.1],fun i a u h1 h2=> ?_⟩
 rcases Nat.lt_or_ge i l.length with hi|hi
 ·rw[List.getElem?_append_left hi] at h1
  rw[List.getElem?_append_left (by rw[h.1];exact hi)] at h2
  exact h.2 i a u h1 h2
 ·rw[List.getElem?_append_right hi] at h1
  rw[List.getElem?_append_right (by rw[h.1];exact hi),h.1] at h2
  exact g.2 _ a u h1 h2
theorem Inn.drop {E:Ek α}{c:Lb}{W:World}{l:List α}{vs:List Value}(h:Inn E c W l vs)(k:Nat):Inn E c W (l.drop k) (vs.drop k):=
 ⟨by rw[List.length_drop,List.length_drop,h.1],fun i a u h1 h2=>by rw[List.getElem?_drop] at h1 h2;exact h.2 _ a u h1 h2⟩
theorem Inn.take {E:Ek α}{c:Lb}{W:World}{l:List α}{vs:List Value}(h:Inn E c W l vs)(k:Nat):Inn E c W (l.take k) (vs.take k):=
 ⟨by rw[List.length_take,List.length_take,h.1],fun i a u h1 h2=>by
  rw[List.getElem?_take] at h1 h2
  split at h1
  ·rename_i hk;rw[if_pos hk] at h2;exact h.2 i a u h1 h2
  ·cases h1⟩
theorem Inn.nil (E:Ek α)(c:Lb)(W:World):Inn E c W [] []:=⟨rfl,fun i a u h=>by simp at h⟩
structure SlR (E:Ek α)(c:Lb)(lo:Nat)(W:World)(v:Value)(l:List α):Prop where
 ex: ∃vs:List Value,Inn E c W l vs∧Rd W E.sz v l.length (flat E l vs)
 lb:0<l.length→LbO c lo v
structure Row (E:Ek α)(c:Lb)(lo:Nat)(W:World)(v:Value)(l:List α):Prop where
 ex: ∃vs:List Value,Inn E c W l vs∧W.ownsRow 0 E.ty E.sz v l.length (flat E l vs)
 lb:LbO c lo v
theorem Row.sl {E:Ek α}{c:Lb}{lo:Nat}{W:World}{v:Value}{l:List α}(h:Row E c lo W v l):SlR E c lo W v l:=by
 obtain⟨⟨vs,h1,h2⟩,h3⟩:=h
 exact⟨⟨vs,h1,Rd.of_own h2⟩,fun _=>h3⟩
theorem SlR.slice {E:Ek α}{c:Lb}{lo:Nat}{W:World}{v:Value}{l:List α}(h:SlR E c lo W v l): ∃a cap,v= .slice a l.length cap:=by
 obtain⟨⟨vs,_,h2⟩,_⟩:=h;exact h2.slice
theorem Row.slice {E:Ek α}{c:Lb}{lo:Nat}{W:World}{v:Value}{l:List α}(h:Row E c lo W v l): ∃a cap,v= .slice a l.length cap:=h.sl.slice
theorem SlR.nil (E:Ek α)(c:Lb)(lo:Nat)(W:World):SlR E c lo W (.slice none 0 0) []:=⟨⟨[],Inn.nil _ _ _,by show Rd W E.sz _ 0 [];exact Rd.nil _ _⟩,fun h=>absurd h Z93⟩
theorem Row.nil (E:Ek α)(c:Lb)(lo:Nat)(W:World):Row E c lo W (.slice none 0 0) []:=⟨⟨[],Inn.nil _ _ _,World.ownsRow_nil _ _ _ _⟩,fun g h=>by cases h⟩
theorem rd_keepL {W W':World}{sz n:Nat}{v:Value}{cs:List Value}(h:Rd W sz v n cs)(hp:0<sz)(hb:0<n→ ∀g,v.ownBlock=some g→g<W.heap.size→W'.heap[g]?=W.heap[g]?):Rd W' sz v n cs:=by
 refine⟨h.1,?_⟩
 rcases h.2 with h2|⟨b,off,cap,rfl,hn,hc⟩
 ·exact .inl h2
 ·rcases Nat.eq_zero_or_pos n with h0|h0
  ·exact .inl ⟨⟨_,_,by rw[h0]⟩,h0⟩
  refine .inr ⟨b,off,cap,rfl,hn,fun j u hj=> ?_⟩
  have h1:=hc j u hj
  have hlt:=World.block_lt_of_cell? W _ h1
  have h2:=hb h0 b rfl hlt
  simp only[World.cell?,h2] at h1⊢
  exact h1
theorem rd_lt {W:World}{sz n:Nat}{v:Value}{cs:List Value}(h:Rd W sz v n cs)(hp:0<sz)(h0:0<n): ∀g,v.ownBlock=some g→g<W.heap.size:=by
 intro g hg
 obtain⟨b,off,cap,rfl,hn,hc⟩:=h.pos h0
 cases hg
 have hl:0<cs.length:=by rw[h.1];exact Nat.mul_pos h0 hp
 exact World.block_lt_of_cell? W _ (hc 0 _ (List.getElem?_eq_getElem hl))
theorem SlR.keep {E:Ek α}(hE:E.Ok){c c':Lb}{lo:Nat}{W W':World}{v:Value}{l:List α}(h:SlR E c lo W v l)(hc:Lx W c c')(hb: ∀k,k<W.heap.size→E.lab (c k)∨c k=lo→W'.heap[k]?=W.heap[k]?):SlR E c' lo W' v l:=by
 obtain⟨⟨vs,h1,h2⟩,h3⟩:=h
 refine⟨⟨vs,h1.keep hE hc fun k hk hl=>hb k hk (.inl hl),rd_keepL h2 hE.pos fun h0 g hg hlt=>hb g hlt (.inr (h3 h0 g hg))⟩,fun h0 g hg=> ?_⟩
 rw[hc g (rd_lt h2 hE.pos h0 g hg)]
 exact h3 h0 g hg
theorem Row.keep {E:Ek α}(hE:E.Ok){c c':Lb}{lo:Nat}{W W':World}{v:Value}{l:List α}(h:Row E c lo W v l)(hc:Lx W c c')(hb: ∀k,k<W.heap.size→E.lab (c k)∨c k=lo→W'.heap[k]?=W.heap[k]?):Row E c' lo W' v l:=by
 obtain⟨⟨vs,h1,h2⟩,h3⟩:=h
 refine⟨⟨vs,h1.keep hE hc fun k hk hl=>hb k hk (.inl hl),?_⟩,fun g hg=> ?_⟩
 ·refine⟨h2.1,?_⟩
  rcases h2.2 with h4|⟨g,cap,cur,hv,hB,hh,r⟩
  ·exact .inl h4
  ·exact .inr ⟨g,cap,cur,hv,hB,(hb g (Array.getElem?_eq_some_iff.1 hh).1 (.inr (h3 g (by rw[hv];rfl)))).trans hh,r⟩
 ·rw[hc g (h2.lt g hg).2]
  exact h3 g hg
theorem SlR.fr {E:Ek α}(hE:E.Ok){F:Nat→Prop}{c c':Lb}{lo:Nat}{W W':World}{v:Value}{l:List α}(h:SlR E c lo W v l)(hc:Lx W c c')(hf:Fr F c W W')(hn: ∀k,E.lab k∨k=lo→ ¬F k):SlR E c' lo W' v l:=
 h.keep hE hc fun k hk hl=>hf.block k hk (hn _ hl)
theorem Row.fr {E:Ek α}(hE:E.Ok){F:Nat→Prop}{c c':Lb}{lo:Nat}{W W':World}{v:Value}{l:List α}(h:Row E c lo W v l)(hc:Lx W c c')(hf:Fr F c W W')(hn: ∀k,E.lab k∨k=lo→ ¬F k):Row E c' lo W' v l:=
 h.keep hE hc fun k hk hl=>hf.block k hk (hn _ hl)
theorem SlR.get {E:Ek α}(hE:E.Ok){c:Lb}{lo:Nat}{W:World}{v:Value}{l:List α}(h:SlR E c lo W v l){i:Nat}{a:α}(ha:l[i]?=some a):
 ∃b off cap u,v= .slice (some ⟨b,off,none⟩) l.length cap∧E.inn c W u a∧ ∀(j:Nat) x,(E.cel a u)[j]?=some x→W.cell? ⟨b,off+i*E.sz+j,none⟩=some x:=by
 obtain⟨⟨vs,h1,h2⟩,_⟩:=h
 have hi:=(List.getElem?_eq_some_iff.1 ha).1
 obtain⟨b,off,cap,rfl,hle,hc⟩:=h2.pos Z11
 obtain⟨u,hu⟩: ∃u,vs[i]?=some u:=⟨_,List.getElem?_eq_getElem (by rw[h1.1];exact hi)⟩
 exact⟨b,off,cap,u,rfl,h1.2 i a u ha hu,fun j x hx=>by rw[Nat.add_assoc];exact hc _ x (flat_get hE h1.1 ha hu hx)⟩
theorem SlR.front {E:Ek α}(hE:E.Ok){c:Lb}{lo:Nat}{W:World}{a:Option Addr}{n cap:Nat}{l:List α}(h:SlR E c lo W (.slice a n cap) l)(hn:n=l.length)(k:Nat)(hk:k≤l.length):SlR E c lo W (.slice a k cap) (l.take k):=by
 obtain⟨⟨vs,h1,h2⟩,h3⟩:=h
 subst hn
 have hlen:(l.take k).length=k:=by rw[List.length_take];omega
 refine⟨⟨vs.take k,h1.take k,?_⟩,fun h0 g hg=> ?_⟩
 ·have h4:=h2.front k hk
  rw[flat_take hE k l vs h1.1] at h4
  rw[hlen]
  exact h4
 ·exact h3 Z11 g (by cases a<;>exact hg)
theorem SlR.back {E:Ek α}(hE:E.Ok){c:Lb}{lo:Nat}{W:World}{a:Option Addr}{n cap:Nat}{l:List α}(h:SlR E c lo W (.slice a n cap) l)(hn:n=l.length)(k:Nat)(hk:k≤l.length):SlR E c lo W (.slice (if cap=k then a else a.map (·.add (k*E.sz))) (n-k) (cap-k)) (l.drop k):=by
 obtain⟨⟨vs,h1,h2⟩,h3⟩:=h
 subst hn
 refine⟨⟨vs.drop k,h1.drop k,?_⟩,fun h0 g hg=> ?_⟩
 ·have h4:=h2.back k hk
  rw[flat_drop hE k l vs h1.1] at h4
  rw[List.length_drop]
  exact h4
 ·refine h3 (by rw[List.length_drop] at h0;omega) g ?_
  cases a with
  |none=>split at hg<;>cases hg
  |some a=>
   have he:(a.add (k*E.sz)).block=a.block:=by unfold Addr.add;split<;>rfl
   split at hg
   ·exact hg
   ·cases hg;show some a.block=some _;rw[←he]
def Lb.row (c:Lb)(v:Value)(lo:Nat):Lb:=fun k=>if v.ownBlock=some k then lo else c k
structure Of (O:Type) where
 nr:Nat
 ao:Nat
 cm:Nat
 ops:List O
structure Ms (O:Type) where
 kd:Nat
 fr:Nat
 vw:Nat
 nr:Nat
 ao:Nat
 ops:List O
 cm:Nat
 sb:Nat
 ls:Nat
structure Sd (O:Type) where
 to:Nat
 m:Ms O
structure Sv (O:Type) where
 lg:Bool
 vw:Nat
 ao:Nat
 ops:List O
 sb:Nat
structure Kt (O:Type) where
 vw:Nat
 nr:Nat
 bs:Nat
 cm:Nat
 ops:List O
structure Rp (O:Type) where
 id:Nat
 n:Nat
 st:Nat
 vw:Nat
 nr:Nat
 bs:Nat
 td:Nat
 cm:Nat
 sb:Nat
 ls:Nat
 log:List O
 idle:Nat
 hv:List Nat
 offs:Nat→Option (Of O)
 saves:List (Sv O)
 out:List (Sd O)
variable {O:Type}
def TM:Nat:=1099511627776
def upd {α:Type}(f:Nat→α)(i:Nat)(v:α):Nat→α:=fun j=>if j=i then v else f j
def hasN (l:List Nat)(c n:Nat):Nat:=(List.range n).countP fun k=>decide (c≤l.getD k 0)
def most (l:List Nat)(n many:Nat):Nat→Nat
 |0=>0
 |b+1=>if many≤hasN l (b+1) n then b+1 else most l n many b
def rch (l:List Nat)(n b:Nat):Nat:=most l n (n/2+1) b
def stb (l:List Nat)(n b:Nat):Nat:=most l n n b
def Of.last (o:Of O):Nat:=o.ao+o.ops.length
def newR (id n:Nat):Rp O:=⟨id,n,0,0,0,0,0,0,0,0,[],0,List.replicate n 0,fun _=>none,[],[]⟩
def prm (r:Rp O):Nat:=r.vw % r.n
def leads (r:Rp O):Bool:=decide (r.st=0)&&decide (prm r=r.id)
def layL (r:Rp O)(a:Nat)(ops:List O):List O:=r.log.take (max a r.bs-r.bs)++ops.drop (max a r.bs-a)
def lay (r:Rp O)(a:Nat)(ops:List O):Rp O:= {r with log:=layL r a ops,ls:=r.bs+(layL r a ops).length}
def mine (r:Rp O):Rp O:= {r with offs:=if prm r=r.id then upd (fun _=>none) r.id (some ⟨r.nr,r.bs,r.cm,r.log⟩) else fun _=>none}
def snd1 (m:Ms O)(r:Rp O)(k:Nat):Rp O:=if k=r.id then r else {r with out:=r.out++ [⟨k,{m with fr:=r.id,vw:=r.vw}⟩] }
def sndL (m:Ms O)(r:Rp O)(ks:List Nat):Rp O:=ks.foldl (snd1 m) r
def save (r:Rp O)(a:Nat):Rp O:= {r with saves:=r.saves++ [⟨true,r.vw,a,r.log.drop (a-r.bs),r.sb⟩] }
def turn (r:Rp O)(v:Nat):Rp O:=
 let r1:=mine {r with vw:=v,st:=1,idle:=0}
 {r1 with saves:=r1.saves++ [⟨false,v,0,[],0⟩] }
def mOffer (r:Rp O):Ms O:=⟨4,0,0,r.nr,r.bs,r.log,r.cm,0,0⟩
def mBegin (r:Rp O):Ms O:=⟨5,0,0,0,r.bs,r.log,r.cm,0,0⟩
def mKd (k:Nat):Ms O:=⟨k,0,0,0,0,[],0,0,0⟩
def mHave (r:Rp O):Ms O:=⟨2,0,0,0,0,[],0,0,r.ls⟩
def mPrep (r:Rp O)(k:Nat):Ms O:=⟨1,0,0,0,max r.bs (r.hv.getD k 0),r.log.drop (max r.bs (r.hv.getD k 0)-r.bs),r.cm,r.sb,0⟩
def offer (r:Rp O):Rp O:=snd1 (mOffer r) r (prm r)
def count (r:Rp O):Rp O:=
 let h:=r.hv.set r.id r.ls
 let c:=max r.cm (rch h r.n r.ls)
 {r with hv:=h,cm:=c,sb:=max r.sb (min (stb h r.n r.ls) c)}
def start (r:Rp O)(ks:List Nat):Rp O:=sndL (mBegin r) r ks
def tell (r:Rp O):Rp O:=(List.range r.n).foldl (fun q k=>snd1 (mPrep q k) q k) r
def offL (r:Rp O):List (Of O):=(List.range r.n).filterMap r.offs
def betterO (a b:Of O):Bool:=decide (b.nr<a.nr)||(decide (a.nr=b.nr)&&decide (b.last<a.last))
def bestO:List (Of O)→Option (Of O)
 | []=>none
 |o::l=>match bestO l with
  |none=>some o
  |some b=>if betterO b o then some b else some o
def mayBegin (r:Rp O):Bool:=(r.offs r.id).isSome&&decide (r.st=1)&&decide (r.n/2+1≤(offL r).length)
def begun1 (r:Rp O)(o:Of O):Rp O:=
 let r1:=lay r o.ao o.ops
 {r1 with st:=0,nr:=r1.vw,cm:=(offL r).foldl (fun c x=>max c (min x.cm r1.ls)) r1.cm,offs:=fun _=>none,hv:=List.replicate r1.n 0}
def begin_ (r:Rp O):Rp O:=
 if mayBegin r then
  match bestO (offL r) with
  |none=>r
  |some o=>
   let r2:=save (begun1 r o) (max o.ao r.bs)
   count (start r2 (List.range r2.n))
 else r
def change (r:Rp O)(v:Nat):Rp O:=begin_ (offer (sndL (mKd 3) (turn r v) (List.range r.n)))
def ask1 (r:Rp O)(o:O):Rp O:= {r with log:=r.log++ [o],ls:=r.ls+1}
def ask (r:Rp O)(o:O):Rp O:=tell (count (save (ask1 r o) r.ls))
def askE (ok:O→Bool)(r:Rp O)(o:O):Nat:=if ok o=false then 1 else if leads r=false then 10 else if 32≤r.ls-r.bs then 8 else 0
def tick (r:Rp O):Rp O:=
 if leads r then tell r
 else
  let r1:= {r with idle:=r.idle+1}
  if 4+r1.id≤r1.idle∧r1.vw<TM then change r1 (r1.vw+1)
  else if r1.st=1 then offer (sndL (mKd 3) r1 (List.range r1.n))
  else r1
def bare (m:Ms O):Bool:=decide (m.ao=0)&&m.ops.isEmpty&&decide (m.cm=0)
def mayM (ok:O→Bool)(r:Rp O)(m:Ms O):Bool:=
 decide (m.fr<r.n)&&decide (m.fr≠r.id)&&decide (m.vw≤TM)&&m.ops.all ok&&decide (m.ao≤TM)&&decide (m.cm≤m.ao+m.ops.length)&&
  (decide (m.kd=1)||decide (m.sb=0))&&(decide (m.kd=2)||decide (m.ls=0))&&(decide (m.kd=4)||decide (m.nr=0))&&
  (if m.kd=1 then decide (m.fr=m.vw % r.n)&&decide (m.sb≤m.cm)
   else if m.kd=2 then bare m&&decide (m.ls≤TM)
   else if m.kd=4 then decide (r.id=m.vw % r.n)&&decide (m.nr≤m.vw)&&decide (m.ao≤m.cm)
   else if m.kd=5 then decide (m.fr=m.vw % r.n)&&decide (m.ao≤m.cm)
   else if m.kd=3∨m.kd=6 then bare m
   else false)
def report (r:Rp O)(k:Nat):Rp O:=snd1 (mHave r) r k
def prep1 (r:Rp O)(m:Ms O):Rp O:=
 let r1:= {r with st:=0,idle:=0}
 if m.ao≤r1.ls∧r1.ls<m.ao+m.ops.length then
  save {r1 with log:=r1.log++m.ops.drop (r1.ls-m.ao),ls:=m.ao+m.ops.length} r1.ls
 else r1
def prep2 (r:Rp O)(m:Ms O):Rp O:=
 let c:=max r.cm (min m.cm r.ls)
 {r with cm:=c,sb:=max r.sb (min m.sb c)}
def prepare (r:Rp O)(m:Ms O):Rp O:=
 if r.nr=r.vw then report (prep2 (prep1 r m) m) m.fr else snd1 (mKd 6) r m.fr
def begunM1 (r:Rp O)(m:Ms O):Rp O:=
 let r1:=lay r m.ao m.ops
 {r1 with vw:=m.vw,nr:=m.vw,st:=0,idle:=0,offs:=fun _=>none,cm:=max r1.cm m.cm}
def begunM (r:Rp O)(m:Ms O):Rp O:=
 if r.nr=m.vw then report {r with st:=0,idle:=0} m.fr
 else if r.ls<m.ao∨m.ao+m.ops.length<r.cm then r
 else report (save (begunM1 r m) (max m.ao r.bs)) m.fr
def haveM (r:Rp O)(m:Ms O):Rp O:=count {r with hv:=r.hv.set m.fr (max (r.hv.getD m.fr 0) (min m.ls r.ls))}
def offerM (r:Rp O)(m:Ms O):Rp O:=
 if r.st=1∧m.ao≤r.ls∧r.cm≤m.ao+m.ops.length then begin_ {r with offs:=upd r.offs m.fr (some ⟨m.nr,m.ao,m.cm,m.ops⟩)}
 else if leads r then start r [m.fr] else r
def take (r:Rp O)(m:Ms O):Rp O:=
 if m.vw<r.vw then(if m.kd=1∨m.kd=6 then snd1 (mKd 3) r m.fr else r)
 else if m.kd=1 then prepare (if r.vw<m.vw then turn r m.vw else r) m
 else if m.kd=2 then(if r.vw<m.vw then r else if leads r then haveM r m else r)
 else if m.kd=3 then(if r.vw<m.vw then change r m.vw else if leads r then start r [m.fr] else r)
 else if m.kd=4 then offerM (if r.vw<m.vw then change r m.vw else r) m
 else if m.kd=5 then begunM r m
 else if m.kd=6 then(if r.vw<m.vw then r else if leads r then start r [m.fr] else r)
 else r
def ready (r:Rp O):List O:=(r.log.drop (r.td-r.bs)).take (r.cm-r.td)
def told (r:Rp O):Rp O:=
 {r with td:=r.cm,log:=if r.bs<min r.sb r.cm then r.log.drop (min r.sb r.cm-r.bs) else r.log,bs:=if r.bs<min r.sb r.cm then min r.sb r.cm else r.bs}
def keptOf (r:Rp O):Kt O:=⟨r.vw,r.nr,r.bs,r.td,r.log⟩
def ldK (ok:O→Bool)(id n:Nat)(k:Kt O):Option (Rp O):=
 if k.nr≤k.vw∧k.vw≤TM∧k.bs≤TM∧k.bs≤k.cm∧k.cm≤k.bs+k.ops.length∧k.ops.all ok=true then
  some {newR id n with vw:=k.vw,nr:=k.nr,bs:=k.bs,cm:=k.cm,td:=k.cm,ls:=k.bs+k.ops.length,log:=k.ops}
 else none
def ldS (ok:O→Bool)(r:Rp O)(x:Sv O):Option (Rp O):=
 if r.vw≤x.vw∧x.vw≤TM∧x.ops.all ok=true then
  if x.lg=false then(if x.ao=0∧x.sb=0∧x.ops= [] then some {r with vw:=x.vw} else none)
  else if r.bs≤x.ao∧x.ao≤r.ls∧max r.cm r.sb≤x.ao+x.ops.length∧x.sb≤TM then
   some (let r1:=lay {r with vw:=x.vw,nr:=x.vw} x.ao x.ops
    {r1 with sb:=max r1.sb (min x.sb r1.ls)})
  else none
 else none
def ldL (ok:O→Bool)(r:Rp O):List (Sv O)→Option (Rp O)
 | []=>some r
 |x::l=>match ldS ok r x with
  |none=>none
  |some r1=>ldL ok r1 l
def ldE (r:Rp O):Rp O:=
 let r1:= {r with cm:=max r.cm r.sb,st:=2}
 if r1.nr<r1.vw then mine {r1 with st:=1} else r1
def load (ok:O→Bool)(id n:Nat)(k:Kt O)(l:List (Sv O)):Option (Rp O):=
 match ldK ok id n k with
 |none=>none
 |some r=>match ldL ok r l with
  |none=>none
  |some r1=>some (ldE r1)
end Go.Proofs.YtdmjegelcdghlaaGreat.Vw
