/-
  Chapter 22: a view begins.
-/
import Derived.Test.YtdmjegelcdghlaaGreatGGen
import Derived.Test.YtdmjegelcdghlaaGreatGKd
import Derived.Test.YtdmjegelcdghlaaGreatGDy
import Derived.Test.YtdmjegelcdghlaaGreatGId
set_option maxRecDepth 100000
set_option maxHeartbeats 64000000
set_option linter.unusedVariables false
set_option linter.unusedSimpArgs false
namespace Go.Proofs.YtdmjegelcdghlaaGreat
theorem Z146 {p:Prop}(h:p:=by have:=HH.out.2.2.2.1.n;omega):p:=h
theorem Z98 {p:Prop}(h:p:=by
 refine⟨_,rfl,?_⟩
 rw[List.length_append]
 unfold msTo
 rw[List.length_map]
 have:=List.length_filter_le (fun k=>decide (k≠r.id)) ks
 omega):p:=h
theorem Z52 {p:Prop}(h:p:=by
 go_quiet (fail)
 go_wp2_with fail
 refine bodyPost_ret (results_none rfl _ _ _) rfl ?_
 refine⟨rfl,?_⟩
 rw[HD.out]
 exact⟨c,Lx.refl _ _,Fr.of_below (below_drewN HB1.out _),(RV.mk HH.out.1 ⟨lv,hv,xv,sv,uv,HH.out.2.1,HH.out.2.2.1⟩:RV i c w p r).below (Lx.refl _ _) (below_drewN HB1.out _)⟩):p:=h
theorem Z8 {p:Prop}(h:p:=by refine Or.inl ⟨by rfl,?_⟩;intro W hSw;(try dsimp only at hSw);go_simp;(try with_reducible rfl)):p:=h
end Go.Proofs.YtdmjegelcdghlaaGreat
namespace Go.Proofs.YtdmjegelcdghlaaGreat.Vw
open Go.RowKit Go.Maps
def offN (r:Rp Op)(j:Nat):List (Of Op):=(List.range j).filterMap r.offs
theorem offN_none {r:Rp Op}{j:Nat}(h:r.offs j=none):offN r (j+1)=offN r j:=by
 unfold offN
 rw[List.range_succ,List.filterMap_append]
 simp[h]
theorem offN_some {r:Rp Op}{j:Nat}{o:Of Op}(h:r.offs j=some o):offN r (j+1)=offN r j++ [o]:=by
 unfold offN
 rw[List.range_succ,List.filterMap_append]
 simp[h]
theorem offN_len (r:Rp Op)(j:Nat):(offN r j).length≤j:=by
 unfold offN
 exact Z156
theorem both {T G:Prop}(h:T→G)(t:T):G:=h t
def OB (r:Rp Op):Prop:= ∀k o,r.offs k=some o→o.nr≤TM∧o.ao≤r.ls∧o.cm≤4*TM∧r.cm≤o.last∧o.last≤r.bs+1000000∧o.ops.length≤1048576
structure Ga (c2:Lb)(w2:World)(L:Nat)(cv lv:Value)(l:List (Of Op))(m:List (Of Op))(c':Lb)(W:World):Prop where
 lx:Lx w2 c2 c'
 fr:Fr (fun k=>k=L∨k=L+1) c2 w2 W
 ca:Row caE c' L W cv l
 of:Row (ofE 1) c' (L+1) W lv m
theorem fresh_lb (c:Lb)(b:Nat): ∀n,∃L,b<L∧ ∀k,k<n→c k<L:=by
 intro n
 induction n with
 |zero=>exact⟨b+1,Z11,fun k hk=>absurd hk Z11⟩
 |succ n ih=>
  obtain⟨L,h1,h2⟩:=ih
  refine⟨max L (c n+1),Z11,fun k hk=> ?_⟩
  by_cases e:k=n
  ·subst e;omega
  ·have:=h2 k Z11;omega
theorem Ga.new {c2 c':Lb}{w2 W W':World}{L:Nat}{cv lv:Value}{l m:List (Of Op)}(h:Ga c2 w2 L cv lv l m c' W)(hb:Below W.heap.size W W'):Ga c2 w2 L cv lv l m (c'.ext W.heap.size) W'∧Lx W c' (c'.ext W.heap.size):=by
 have hx:=c'.ext_lx W
 exact⟨⟨h.lx.trans hx h.fr.size,h.fr.trans h.lx (Fr.of_below hb),h.ca.keep caE_ok hx fun k hk _=>hb.block k hk,h.of.keep (ofE_ok 1) hx fun k hk _=>hb.block k hk⟩,hx⟩
theorem Ga.appC {c2 c':Lb}{w2 W:World}{L:Nat}{cv lv xv:Value}{l m:List (Of Op)}{o:Of Op}(h:Ga c2 w2 L cv lv l m c' W)(hL:100<L)(hx:SlR caE c' 1 W xv [o])(hl:l.length≤1000):
 ∃a q W',(Builtin.append_ #[121,121] 121 #[cv,xv]).run Tryz.prog W= .ok (.slice a (l++ [o]).length q) W'∧ ∃c'',Lx W c' c''∧Fr (fun k=>k=L∨k=L+1) c' W W'∧Ga c2 w2 L (.slice a (l++ [o]).length q) lv (l++ [o]) m c'' W':=by
 obtain⟨v',W',h1,h2,h3,h4,h5⟩:=h.ca.app caE_ok (t:=121) (ty:=121) Tryz.underlying121 ca_row rfl hx.ex (fun e=>e) (by have:([o]:List (Of Op)).length=1:=rfl;omega) (by have:([o]:List (Of Op)).length=1:=rfl;unfold maxLen;omega)
 obtain⟨a,q,e⟩:=h3.slice
 subst e
 have hf:Fr (fun k=>k=L∨k=L+1) c' W W':=h4.mono fun k hk=> .inl hk
 refine⟨a,q,W',h1,_,h2,hf,h.lx.trans h2 h.fr.size,h.fr.trans h.lx hf,h3,h.of.keep (ofE_ok 1) h2 fun k hk hl=>h4.block k hk fun e=> ?_⟩
 rcases hl with hl|hl
 ·have:c' k=1:=hl
  omega
 ·omega
theorem Ga.appO {c2 c':Lb}{w2 W:World}{L:Nat}{cv lv xv:Value}{l m:List (Of Op)}{o:Of Op}(h:Ga c2 w2 L cv lv l m c' W)(hL:100<L)(hx:SlR (ofE 1) c' 1 W xv [o])(hl:m.length≤1000):
 ∃a q W',(Builtin.append_ #[122,122] 122 #[lv,xv]).run Tryz.prog W= .ok (.slice a (m++ [o]).length q) W'∧ ∃c'',Lx W c' c''∧Fr (fun k=>k=L∨k=L+1) c' W W'∧Ga c2 w2 L cv (.slice a (m++ [o]).length q) l (m++ [o]) c'' W':=by
 obtain⟨v',W',h1,h2,h3,h4,h5⟩:=h.of.app (ofE_ok 1) (t:=122) (ty:=122) Tryz.underlying122 of_row rfl hx.ex (fun e=>by have e':L+1=1:=e;omega) (by have:([o]:List (Of Op)).length=1:=rfl;omega) (by have:([o]:List (Of Op)).length=1:=rfl;unfold maxLen;omega)
 obtain⟨a,q,e⟩:=h3.slice
 subst e
 have hf:Fr (fun k=>k=L∨k=L+1) c' W W':=h4.mono fun k hk=> .inr hk
 refine⟨a,q,W',h1,_,h2,hf,h.lx.trans h2 h.fr.size,h.fr.trans h.lx hf,h.ca.keep caE_ok h2 fun k hk hl=>h4.block k hk fun e=> ?_,h3⟩
 rcases hl with hl|hl
 ·exact hl
 ·omega
theorem SlR.frL {α:Type}{E:Ek α}(hE:E.Ok){L:Nat}{c c':Lb}{W W':World}{v:Value}{l:List α}(h:SlR E c 1 W v l)(hL:100<L)(hlab: ∀k,E.lab k→k=1)(hc:Lx W c c')(hf:Fr (fun k=>k=L∨k=L+1) c W W'):SlR E c' 1 W' v l:=
 h.fr hE hc hf fun k hk e=>by
  have:k=1:=by rcases hk with hk|hk;exact hlab k hk;exact hk
  have e':k=L∨k=L+1:=e
  omega
theorem ca_lab: ∀k,caE.lab k→k=1:=fun k h=>absurd h (fun e=>e)
theorem of_lab: ∀k,(ofE 1).lab k→k=1:=fun k h=>h
theorem one_new {α:Type}{E:Ek α}(hE:E.Ok){c c':Lb}{W:World}{o:α}{u:Value}(hx:Lx W c c')(hn:c' W.heap.size=1)(hi:E.inn c W u o){ty:TypeId}(cs:List Value)(hcs:E.cel o u=cs):SlR E c' 1 (W.alloc (.cells cs.toArray ty)) (.slice (some ⟨W.heap.size,0,none⟩) 1 1) [o]:=by
 refine⟨⟨[u],Inn.one (hE.keep c c' W _ u o hi hx fun k hk _=>Lib.alloc_old W _ k hk),?_⟩,fun _ g hg=> ?_⟩
 ·rw[flat_single,hcs]
  exact rd_new W E.sz 1 cs ty (by rw[←hcs,hE.len];omega)
 ·cases hg;exact hn
theorem Blk.frL {L:Nat}{c:Lb}{W W':World}{b:Nat}{ty:TypeId}{cs:List Value}(h:Blk W b ty cs)(hc:c b=1)(hL:100<L)(hf:Fr (fun k=>k=L∨k=L+1) c W W'):Blk W' b ty cs:=
 (hf.block b h.lt (by rw[hc];intro e;have e':1=L∨1=L+1:=e;omega)).trans h
structure Rg (c2:Lb)(w2:World)(L:Nat)(o:Of Op)(u:Value)(b9:Nat)(cv lv:Value)(l m:List (Of Op))(x1 x2:Option Value)(c:Lb)(W:World):Prop where
 ga:Ga c2 w2 L cv lv l m c W
 bk:Blk W b9 105 (ofC o u)
 bl:c b9=1
 hL:100<L
 h1: ∀v,x1=some v→SlR caE c 1 W v [o]
 h2: ∀v,x2=some v→SlR (ofE 1) c 1 W v [o]
 us:OfI 1 c W u o
 nl:l.length≤1000∧m.length≤1000
theorem Rg.call {c2 c:Lb}{w2 W W':World}{L b9:Nat}{o:Of Op}{u cv lv:Value}{l m:List (Of Op)}{x1 x2:Option Value}(h:Rg c2 w2 L o u b9 cv lv l m x1 x2 c W)(hb:Below W.heap.size W W'):Rg c2 w2 L o u b9 cv lv l m x1 x2 (c.ext W.heap.size) W':=by
 obtain⟨h1,hx⟩:=h.ga.new hb
 exact⟨h1,h.bk.below hb h.bk.lt,(hx _ h.bk.lt).trans h.bl,h.hL,fun v hv=>(h.h1 v hv).keep caE_ok hx fun k hk _=>hb.block k hk,fun v hv=>(h.h2 v hv).keep (ofE_ok 1) hx fun k hk _=>hb.block k hk,(ofE_ok 1).keep _ _ _ _ _ _ h.us hx fun k hk _=>hb.block k hk,h.nl⟩
theorem Rg.one1 {c2 c:Lb}{w2 W:World}{L b9:Nat}{o:Of Op}{u cv lv:Value}{l m:List (Of Op)}{x2:Option Value}(h:Rg c2 w2 L o u b9 cv lv l m none x2 c W):
 Rg c2 w2 L o u b9 cv lv l m (some (.slice (some ⟨W.heap.size,0,none⟩) 1 1)) x2 (c.ext W.heap.size) (W.alloc (.cells #[.int .i64 (o.nr:Int),.int .i64 (o.last:Int)] 124)):=by
 have h1:=h.call ((Below.refl W.heap.size W).alloc (Nat.le_refl _) (.cells #[.int .i64 (o.nr:Int),.int .i64 (o.last:Int)] 124))
 exact⟨h1.ga,h1.bk,h1.bl,h1.hL,fun v hv=>by cases hv;exact one_new (u:=undef) caE_ok (c.ext_lx W) (c.ext_new (Nat.le_refl _)) trivial [.int .i64 (o.nr:Int),.int .i64 (o.last:Int)] rfl,h1.h2,h1.us,h1.nl⟩
theorem Rg.one2 {c2 c:Lb}{w2 W:World}{L b9:Nat}{o:Of Op}{u cv lv:Value}{l m:List (Of Op)}{x1:Option Value}(h:Rg c2 w2 L o u b9 cv lv l m x1 none c W):
 Rg c2 w2 L o u b9 cv lv l m x1 (some (.slice (some ⟨W.heap.size,0,none⟩) 1 1)) (c.ext W.heap.size) (W.alloc (.cells #[.int .i64 (o.nr:Int),.int .i64 (o.ao:Int),.int .i64 (o.cm:Int),u] 105)):=by
 have h1:=h.call ((Below.refl W.heap.size W).alloc (Nat.le_refl _) (.cells #[.int .i64 (o.nr:Int),.int .i64 (o.ao:Int),.int .i64 (o.cm:Int),u] 105))
 exact⟨h1.ga,h1.bk,h1.bl,h1.hL,h1.h1,fun v hv=>by cases hv;exact one_new (u:=u) (ofE_ok 1) (c.ext_lx W) (c.ext_new (Nat.le_refl _)) h.us (ofC o u) rfl,h1.us,h1.nl⟩
theorem Rg.app1 {c2 c:Lb}{w2 W:World}{L b9:Nat}{o:Of Op}{u cv lv x:Value}{l m:List (Of Op)}{x2:Option Value}(h:Rg c2 w2 L o u b9 cv lv l m (some x) x2 c W)(hl:l.length≤999):
 ∃a k q W',(Builtin.append_ #[121,121] 121 #[cv,x]).run Tryz.prog W= .ok (.slice a k q) W'∧ ∃c',Rg c2 w2 L o u b9 (.slice a k q) lv (l++ [o]) m (some x) x2 c' W':=by
 obtain⟨a,q,W',h1,c',h2,h3,h4⟩:=h.ga.appC h.hL (h.h1 x rfl) h.nl.1
 exact⟨a,_,q,W',h1,c',h4,Blk.frL h.bk h.bl h.hL h3,(h2 _ h.bk.lt).trans h.bl,h.hL,fun v hv=>(h.h1 v hv).frL caE_ok h.hL ca_lab h2 h3,fun v hv=>(h.h2 v hv).frL (ofE_ok 1) h.hL of_lab h2 h3,(ofE_ok 1).keep _ _ _ _ _ _ h.us h2 fun k hk hl=>h3.block k hk (by
  have e':c k=1:=hl
  rw[e'];intro e
  have:=h.hL
  rcases e with e|e<;>omega),⟨by rw[List.length_append];show _+1≤_;omega,h.nl.2⟩⟩
theorem Rg.app2 {c2 c:Lb}{w2 W:World}{L b9:Nat}{o:Of Op}{u cv lv x:Value}{l m:List (Of Op)}{x1:Option Value}(h:Rg c2 w2 L o u b9 cv lv l m x1 (some x) c W)(hl:m.length≤999):
 ∃a k q W',(Builtin.append_ #[122,122] 122 #[lv,x]).run Tryz.prog W= .ok (.slice a k q) W'∧ ∃c',Rg c2 w2 L o u b9 cv (.slice a k q) l (m++ [o]) x1 (some x) c' W':=by
 obtain⟨a,q,W',h1,c',h2,h3,h4⟩:=h.ga.appO h.hL (h.h2 x rfl) h.nl.2
 exact⟨a,_,q,W',h1,c',h4,Blk.frL h.bk h.bl h.hL h3,(h2 _ h.bk.lt).trans h.bl,h.hL,fun v hv=>(h.h1 v hv).frL caE_ok h.hL ca_lab h2 h3,fun v hv=>(h.h2 v hv).frL (ofE_ok 1) h.hL of_lab h2 h3,(ofE_ok 1).keep _ _ _ _ _ _ h.us h2 fun k hk hl=>h3.block k hk (by
  have e':c k=1:=hl
  rw[e'];intro e
  have:=h.hL
  rcases e with e|e<;>omega),⟨h.nl.1,by rw[List.length_append];show _+1≤_;omega⟩⟩
theorem hs_execK {P:Program}{ops:Array Oper}{o:Oper}{a:Act}{w w':World}{v:Value}{K:Act→World→Prop}{Q:Exit→Act→World→Prop}(hw:Region.wanted o (yielded ops a.tmps)=true)
 (hr:(execOp a.eval o).run P w= .ok (.value v) w') (h:K (a.put o.dst v) w'):if Region.wanted o (yielded ops a.tmps)=true then Oper.wp P o a w K Q else K (a.put o.dst undef) w:=by
 rw[if_pos hw]
 unfold Oper.wp
 rw[hr]
 exact h
theorem exec_appK {P:Program}{o:Oper}{a:Act}(s x:Operand)(t:TypeId)(ho:o.op= .call {callee:= .builtin .append,args:= #[s,x],argTypes:= #[t,t] }){S X v':Value}{w w':World}(hs:a.eval s=S)(hx:a.eval x=X)
 (hr:(Builtin.append_ #[t,t] o.type #[S,X]).run P w= .ok v' w'):(execOp a.eval o).run P w= .ok (.value v') w':=by
 simp only[execOp,ho,resolve,invoke,builtin,Sem.run_bind,Sem.run_pure,Result.andThen_ok,List.map_toArray,List.map_cons,List.map_nil,hs,hx,hr]
theorem Ga.rv {i:Nat}{c2 c':Lb}{w2 W:World}{L p:Nat}{r:Rp Op}{cv lv:Value}{l m:List (Of Op)}(h:Ga c2 w2 L cv lv l m c' W)(hv:RV i c2 w2 p r)(hL:200+20*i<L):RV i c' W p r:=
 hv.keep h.lx fun k hk hl=>h.fr.block k hk fun e=>by
  have e':c2 k=L∨c2 k=L+1:=e
  omega
theorem Row.frF {i L:Nat}{c c':Lb}{W W':World}{v:Value}{l:List (Of Op)}(h:Row (ofE 1) c (L+1) W v l)(hL:200+20*i<L)(hx:Lx W c c')(hf:Fr (Fi i) c W W'):Row (ofE 1) c' (L+1) W' v l:=
 h.fr (ofE_ok 1) hx hf fun k hk e=>by
  unfold Fi at e
  rcases hk with hk|hk
  ·have:k=1:=hk
   omega
  ·omega
def cmN (r:Rp Op)(l:List (Of Op))(ls j:Nat):Nat:=(l.take j).foldl (fun c x=>max c (min x.cm ls)) r.cm
theorem cmN_succ {r:Rp Op}{l:List (Of Op)}{ls j:Nat}{x:Of Op}(h:l[j]?=some x):cmN r l ls (j+1)=max (cmN r l ls j) (min x.cm ls):=by
 unfold cmN
 rw[List.take_add_one,h,List.foldl_append]
 rfl
theorem all_sl {B n:Nat}{c:Lb}{W W':World}{v:Value}(h:W'.ownsRow W.heap.size 3 1 v n ((List.range n).map natV)):SlR ntE (c.ext W.heap.size) 1 W' v (List.range n):=by
 refine⟨⟨List.replicate n undef,⟨Z93,fun _ _ _ _ _=>trivial⟩,?_⟩,fun _ g hg=>c.ext_new (h.lt g hg).1⟩
 rw[flat_nt _ _ Z93,List.length_range]
 have e:(ints (List.range n)).map (Value.int .i64)=(List.range n).map natV:=by unfold ints;rw[List.map_map];rfl
 rw[e]
 exact Rd.of_own h
theorem start_len (r:Rp Op)(ks:List Nat): ∃o,start r ks= {r with out:=o} ∧o.length≤r.out.length+ks.length:=by
 rw[start_eq]
 exact Z98
theorem LI.outs {r:Rp Op}(h:LI r)(o:List (Sd Op))(ho:o.length≤50000):LI {r with out:=o}:=⟨h.n,h.id,h.vw,h.nr,h.bs,h.ls,h.lo,h.hv,h.sv,ho⟩
theorem LI.begun {r:Rp Op}(h:LI r)(hb:OB r){o:Of Op}{k:Nat}(ho:r.offs k=some o)(hs:r.saves.length≤49000∧r.out.length≤49000):LI (begun1 r o)∧r.bs≤max o.ao r.bs∧max o.ao r.bs≤(begun1 r o).ls:=by
 obtain⟨h1,h2,h3,h4,h5,h6⟩:=hb k o ho
 have hl:o.last=o.ao+o.ops.length:=rfl
 have hbs:=h.bs
 have hlen:=layL_len r o.ao o.ops h2 h.ls Z11
 have hge:=foldl_max_ge (fun x:Of Op=>min x.cm (r.bs+(layL r o.ao o.ops).length)) (offL r) r.cm
 have hle:=foldl_max_le (fun x:Of Op=>min x.cm (r.bs+(layL r o.ao o.ops).length)) (r.bs+(layL r o.ao o.ops).length) (offL r) r.cm Z11 fun x _=>Nat.min_le_right _ _
 refine⟨⟨h.n,h.id,h.vw,Nat.le_refl _,⟨hbs.1,Nat.le_trans hbs.2.1 hge,hle,Nat.le_trans hbs.2.2.2 hge⟩,rfl,⟨?_,h.lo.2⟩,?_,by show r.saves.length≤_;omega,by show r.out.length≤_;omega⟩,Nat.le_max_right _ _,?_⟩
 ·show(layL r o.ao o.ops).length≤_
  omega
 ·show(List.replicate r.n 0).length=r.n
  rw[List.length_replicate]
 ·show _≤r.bs+(layL r o.ao o.ops).length
  omega
theorem begin_any {i:Nat}{c:Lb}{r:Rp Op}(p:Nat)(w:World)(h:RV i c w p r)(hl:LI r)(ho:OB r)(hs:r.saves.length≤49000∧r.out.length≤49000):
 Calls Tryz.prog 55 #[.pointer (some ⟨p,0,none⟩)] w fun e w'=>e= .returned (.tuple #[])∧Mt (Fi i) i c w w' p (begin_ r):=by
 obtain⟨hlp,lv,hv,xv,sv,uv,hbp,hrp⟩:=h
 have HH:=Lib.hid (And.intro hlp (And.intro hbp (And.intro hrp (And.intro hl (And.intro ho hs)))))
 have hlk:=hrp.of.look r.id (by have:=hl.id;have:=hl.n;omega)
 have hpl:=hbp.lt
 have y0:=hbp.cell 0 rfl
 have y13:=hbp.cell 13 rfl
 have y2:=hbp.cell 2 rfl
 clear hlp hbp hrp hl ho hs
 obtain⟨k1,k2,k3,ka,kn,kc,k5,hlook,hcs⟩: ∃(k1 k2 k3:Int) (ka:Option Addr) (kn kc:Nat) (k5:Bool),(∀W',Below w.heap.size w W'→(Instr.lookup 92 xv (.int .i64 (r.id:Int)) true).run Tryz.prog W'= .ok (.tuple #[.agg #[.int .i64 k1,.int .i64 k2,.int .i64 k3,.slice ka kn kc],.bool k5]) W')∧(r.offs r.id).isSome=k5:=by
  rcases hlk with⟨h1,h2⟩|⟨o,ua,uc,h1,h2,-,-⟩
  ·exact⟨0,0,0,none,0,0,false,h2,by rw[h1];rfl⟩
  ·exact⟨_,_,_,_,_,_,true,h2,by rw[h1];rfl⟩
 have HOK:=Lib.hid hcs
 obtain⟨wa,hwa⟩: ∃wa,wa=(w.alloc (.cells #[.int .i64 0,.int .i64 0,.int .i64 0,.slice none 0 0] 105)).drew:=⟨_,rfl⟩
 have hba:Below w.heap.size w wa:=by rw[hwa];exact((Below.refl _ _).alloc (Nat.le_refl _) _).drew
 have hl1:=hlook wa hba
 have hl2:=hlook w.drew (Below.refl _ _).drew
 have y0d:w.drew.cell? ⟨p,0,none⟩=some (.int .i64 (r.id:Int)):=y0
 have y13d:w.drew.cell? ⟨p,13,none⟩=some xv:=y13
 have y0a:wa.cell? ⟨p,0,none⟩=some (.int .i64 (r.id:Int)):=(HH.out.2.1.below hba hpl).cell 0 rfl
 have y13a:wa.cell? ⟨p,13,none⟩=some xv:=(HH.out.2.1.below hba hpl).cell 13 rfl
 rw[hwa] at hl1 y0a y13a
 clear hcs hlk hba hwa hlook
 go_enter Tryz.func55,Tryz.ntmps55
 go_upto_region 1 with fail
 apply both
 ·intro hh
  go_region
  all_goals exact hh
 obtain⟨w1,hw1⟩: ∃w1,w1=(w.alloc (.cells #[.int .i64 k1,.int .i64 k2,.int .i64 k3,.slice ka kn kc] 105)).drew:=⟨_,rfl⟩
 have HB1:Hid (Below w.heap.size w w1):=Lib.hid (by rw[hw1];exact((Below.refl _ _).alloc (Nat.le_refl _) _).drew)
 rw[←hw1]
 clear hw1 hl1 hl2 y0 y13 y2 y0d y13d y0a y13a
 have HP1:=Lib.hid (HH.out.2.1.below HB1.out hpl)
 have y2:=HP1.out.cell 2 rfl
 have y1:=HP1.out.cell 1 rfl
 have y13:=HP1.out.cell 13 rfl
 go_wp2_with fail
 cases hk5:k5
 ·subst hk5
  have HD:Hid (begin_ r=r):=Lib.hid (by unfold begin_ mayBegin;rw[HOK.out];rfl)
  exact Z52
 subst hk5
 by_cases hst:r.st=1
 case neg=>
  have t1: ¬(r.st:Int)=1:=by omega
  have HD:Hid (begin_ r=r):=Lib.hid (by unfold begin_ mayBegin;rw[decide_eq_false hst,Bool.and_false,Bool.false_and];rfl)
  clear hst
  exact Z52
 have t1:(r.st:Int)=1:=by omega
 have HST:=Lib.hid hst
 clear hst
 obtain⟨m,hm,hmc,hmo⟩: ∃m,xv= .map (some m)∧c m=13+10*i∧OfM 1 c w m r.n r.offs:=by
  rcases HH.out.2.2.1.of with⟨_,h2,_⟩|h1
  ·exact absurd HST.out h2
  ·exact h1
 subst hm
 obtain⟨cn,hcn⟩: ∃cn,cn=cntO r.offs r.n:=⟨_,rfl⟩
 have hlen: ∀q,(Builtin.len_ #[92] 3 #[.map (some m)]).run Tryz.prog (w1.drewN q)= .ok (.int .i64 (cn:Int)) (w1.drewN q):=fun q=>by
  rw[hcn]
  exact(hmo.keep (W':=w1.drewN q) (Lx.refl _ _) ((below_drewN HB1.out q).block m hmo.lt) fun k hk _=>(below_drewN HB1.out q).block k hk).len _
 have hmj:Qs.maj (r.n:Int)=((r.n/2+1:Nat):Int):=by
  have h1:=HH.out.2.2.2.1.n
  unfold Qs.maj
  rw[if_neg Z11];omega
 have HMJ:=Lib.hid (fun W=>maj_any (r.n:Int) W)
 rw[hmj] at HMJ
 obtain⟨mj,hmjn⟩: ∃mj,mj=r.n/2+1:=⟨_,rfl⟩
 rw[←hmjn] at HMJ
 have HCN:=Lib.hid (And.intro hcn (And.intro hmjn (And.intro hmc hmo)))
 clear hmj hcn hmjn hmc hmo
 by_cases hlt:cn<mj
 ·have t2:(cn:Int)<(mj:Int):=by omega
  have HD:Hid (begin_ r=r):=Lib.hid (by
   unfold begin_ mayBegin
   have h1:=HCN.out
   have h2:(offL r).length=cn:=h1.1.symm
   rw[h2,decide_eq_false (p:=r.n/2+1≤cn) Z11,Bool.and_false]
   rfl)
  clear hlt
  go_quiet ((first|(go_at_call 41;exact Calls.quiet_of_same ((HMJ.out _).mono fun e w' ⟨h1,h2⟩=>⟨h1,h2.symm⟩))))
  go_wp2_with fail
  refine bodyPost_ret (results_none rfl _ _ _) rfl ?_
  refine⟨rfl,?_⟩
  rw[HD.out]
  exact⟨c,Lx.refl _ _,Fr.of_below (below_drewN HB1.out _),(RV.mk HH.out.1 ⟨lv,hv,_,sv,uv,HH.out.2.1,HH.out.2.2.1⟩:RV i c w p r).below (Lx.refl _ _) (below_drewN HB1.out _)⟩
 have t2: ¬(cn:Int)<(mj:Int):=by omega
 have HMB:Hid (mayBegin r=true):=Lib.hid (by
  unfold mayBegin
  have h1:=HCN.out
  have h2:(offL r).length=cn:=h1.1.symm
  rw[h2,HOK.out,HST.out,decide_eq_true (p:=r.n/2+1≤cn) Z11]
  rfl)
 clear hlt
 go_quiet ((first|(go_at_call 41;exact Calls.quiet_of_same ((HMJ.out _).mono fun e w' ⟨h1,h2⟩=>⟨h1,h2.symm⟩))))
 go_upto_region 5 with fail
 clear y2 y1 y13 t1 t2 hlen
 have HB2:Hid (Below w.heap.size w (w1.drewN nq)):=Lib.hid (below_drewN HB1.out nq)
 have HP2:=Lib.hid (HH.out.2.1.below HB2.out hpl)
 obtain⟨w2,hw2⟩: ∃w2,w2=w1.drewN nq:=⟨_,rfl⟩
 rw[←hw2] at HB2 HP2⊢
 clear hw2 HP1 HB1 HMJ
 have HAL:=Lib.hid (all_any p w2 HP2.out Z146)
 go_wp2_with fail
 refine HAL.out.mono ?_
 rintro e w3 ⟨v3,rfl,ho3,hb3⟩
 obtain⟨a3,cp3,e3⟩:=(Rd.of_own ho3).slice
 subst e3
 have HB3:Hid (Below w.heap.size w w3):=Lib.hid (HB2.out.trans (hb3.mono HB2.out.size))
 obtain⟨c3,hc3⟩: ∃c3,c3=c.ext w.heap.size:=⟨_,rfl⟩
 have HC3:Hid (Lx w c c3∧ ∀k,w.heap.size≤k→c3 k=1):=Lib.hid ⟨by rw[hc3];exact c.ext_lx w,fun k hk=>by rw[hc3];exact c.ext_new hk⟩
 have HV3:Hid (RV i c3 w3 p r):=Lib.hid ((RV.mk HH.out.1 ⟨lv,hv,_,sv,uv,HH.out.2.1,HH.out.2.2.1⟩:RV i c w p r).below HC3.out.1 HB3.out)
 have HO3:=Lib.hid (And.intro ho3 HB2.out.size)
 obtain⟨L,hL1,hL2⟩:=fresh_lb c3 (200+20*i) w3.heap.size
 have HL:=Lib.hid (And.intro hL1 hL2)
 have HP3:=Lib.hid (HH.out.2.1.below HB3.out hpl)
 clear ho3 hb3 HAL hc3 hL1 hL2
 go_wp2_with fail
 go_loopw [5,6,55] (fun cv lv k wr=> ∃j:Nat,k= .int .i64 (j:Int)∧j≤r.n∧ ∃c',Ga c3 w3 L cv lv (offN r j) (offN r j) c' wr) (fun _ _ k _=>r.n-(intOf k).toNat)
 case atStart=>exact⟨0,rfl,Nat.zero_le _,c3,Lx.refl _ _,Fr.refl _ _ _,Row.nil _ _ _ _,Row.nil _ _ _ _⟩
 case round=>
  obtain⟨j,rfl,hj,c',hga⟩:=hrel
  have HG:=Lib.hid hga
  obtain⟨ca,cq,ec⟩:=hga.ca.slice
  obtain⟨la,lq,el⟩:=hga.of.slice
  subst ec
  subst el
  have HBR:Hid (Below w.heap.size w wr):=Lib.hid (HB3.out.trans ((hga.fr.below (Nat.le_refl _) fun k hk e=>by
   have h1:=HL.out.2 k hk
   rcases e with e|e<;>omega).mono HB3.out.size))
  clear hga
  by_cases hjn:j<r.n
  case pos=>
   have t1:(j:Int)<(r.n:Int):=by omega
   obtain⟨g3,ea⟩: ∃g3,a3=some ⟨g3,0,none⟩:=by
    rcases HO3.out.1.2 with⟨_,h0⟩|⟨g,cap,cur,e,_⟩
    ·omega
    ·cases e;exact⟨g,rfl⟩
   subst ea
   have yk:wr.cell? ⟨g3,j,none⟩=some (.int .i64 (j:Int)):=by
    have h0:=HO3.out.1.cells (g:=g3) rfl j (.int .i64 (j:Int)) (by rw[List.getElem?_map,List.getElem?_range hjn];rfl)
    rw[Addr.add_lit,Nat.zero_add] at h0
    have h1:=HO3.out.1.lt g3 rfl
    have h3:=HG.out.fr.block g3 h1.2 (by
     have h4:=HC3.out.2 g3 (by have:=HO3.out.2;omega)
     rw[h4]
     intro e
     have h5:=HL.out.1
     rcases e with e|e<;>omega)
    simp only[World.cell?,h3] at h0⊢
    exact h0
   have y13:wr.cell? ⟨p,13,none⟩=some (.map (some m)):=(HH.out.2.1.below HBR.out hpl).cell 13 rfl
   rcases HH.out.2.2.1.of.look j Z146 with⟨hnone,hlk⟩|⟨o,ua,uc,hsome,hlk,hus,hul⟩
   ·have hl1:=hlk wr HBR.out
    have HN:Hid (∃c'',Ga c3 w3 L (.slice ca (offN r j).length cq) (.slice la (offN r j).length lq) (offN r (j+1)) (offN r (j+1)) c'' (wr.alloc (.cells #[.int .i64 0,.int .i64 0,.int .i64 0,.slice none 0 0] 105))):=Lib.hid (by
     have h1:=HG.out.new ((Below.refl wr.heap.size wr).alloc (Nat.le_refl _) (.cells #[.int .i64 0,.int .i64 0,.int .i64 0,.slice none 0 0] 105))
     rw[offN_none hnone]
     exact⟨_,h1.1⟩)
    have hn9:r.n≤7:=HH.out.2.2.2.1.n.2
    clear hnone hlk
    exact Z180
   ·have hl1:=hlk wr HBR.out
    have HO:=Lib.hid (And.intro hsome (And.intro hus hul))
    clear hlk hsome hus hul
    go_upto_region 10 with fail
    have HR0:Hid (Rg c3 w3 L o (.slice ua o.ops.length uc) wr.heap.size (.slice ca (offN r j).length cq) (.slice la (offN r j).length lq) (offN r j) (offN r j) none none (c'.ext wr.heap.size) (wr.alloc (.cells #[.int .i64 (o.nr:Int),.int .i64 (o.ao:Int),.int .i64 (o.cm:Int),.slice ua o.ops.length uc] 105))):=Lib.hid (by
     have hba:Below wr.heap.size wr (wr.alloc (.cells #[.int .i64 (o.nr:Int),.int .i64 (o.ao:Int),.int .i64 (o.cm:Int),.slice ua o.ops.length uc] 105)):=(Below.refl _ _).alloc (Nat.le_refl _) _
     obtain⟨h1,h2⟩:=HG.out.new hba
     have h3:=offN_len r j
     have h4:=HH.out.2.2.2.1.n
     refine⟨h1,Blk.new wr 105 _,c'.ext_new (Nat.le_refl _),by have:=HL.out.1;omega,fun v hv=>(by cases hv),fun v hv=>(by cases hv),⟨?_,HO.out.2.2⟩,⟨Z11,Z11⟩⟩
     have h5:Lx w c (c'.ext wr.heap.size):=(HC3.out.1.trans HG.out.lx HB3.out.size).trans h2 HBR.out.size
     exact HO.out.2.1.keep (opE_ok 1) h5 fun k hk _=>((HBR.out.trans (hba.mono HBR.out.size)).block k hk))
    have HNJ:Hid ((offN r j).length≤999):=Lib.hid (by have h3:=offN_len r j;have h4:=HH.out.2.2.2.1.n;omega)
    have HAO:Hid (o.ao≤4*TM∧o.ops.length≤1048576):=Lib.hid (by
     have h1:=HH.out.2.2.2.2.1 j o HO.out.1
     have h2:=HH.out.2.2.2.1.ls
     have h3:=HH.out.2.2.2.1.lo
     have h4:TM=1099511627776:=rfl
     exact⟨Z11,HO.out.2.2⟩)
    obtain⟨ls,hls⟩: ∃ls,ls=o.last:=⟨_,rfl⟩
    have HLS:=Lib.hid hls
    clear hls
    obtain⟨W0,hW0⟩: ∃W0,W0=wr.alloc (.cells #[.int .i64 (o.nr:Int),.int .i64 (o.ao:Int),.int .i64 (o.cm:Int),.slice ua o.ops.length uc] 105):=⟨_,rfl⟩
    obtain⟨c0,hc0⟩: ∃c0,c0=c'.ext wr.heap.size:=⟨_,rfl⟩
    obtain⟨b9,hb9⟩: ∃b9,b9=wr.heap.size:=⟨_,rfl⟩
    obtain⟨nj,hnj⟩: ∃nj,nj=(offN r j).length:=⟨_,rfl⟩
    rw[←hW0,←hc0,←hb9,←hnj] at HR0
    rw[←hW0,←hb9,←hnj]
    have hn9:r.n≤7:=HH.out.2.2.2.1.n.2
    clear hW0 hc0 hb9 hl1 yk y13 t1 hnj
    have HR0d:Hid (Rg c3 w3 L o (.slice ua o.ops.length uc) b9 (.slice ca nj cq) (.slice la nj lq) (offN r j) (offN r j) none none c0 W0.drew):=Lib.hid (by
     have h0:=HR0.out
     exact⟨⟨h0.ga.lx,h0.ga.fr.drew,h0.ga.ca.keep caE_ok (Lx.refl _ _) fun _ _ _=>rfl,h0.ga.of.keep (ofE_ok 1) (Lx.refl _ _) fun _ _ _=>rfl⟩,h0.bk,h0.bl,h0.hL,fun v hv=>(by cases hv),fun v hv=>(by cases hv),⟨h0.us.s.keep (opE_ok 1) (Lx.refl _ _) fun _ _ _=>rfl,h0.us.n⟩,h0.nl⟩)
    refine wp_region_held_drew (S:=(fun W=>W.cell? ⟨b9,0,none⟩=some (.int .i64 (o.nr:Int))∧W.cell? ⟨b9,1,none⟩=some (.int .i64 (o.ao:Int))∧W.cell? ⟨b9,2,none⟩=some (.int .i64 (o.cm:Int))∧W.cell? ⟨b9,3,none⟩=some (.slice ua o.ops.length uc))) Z27 ?_ (fun hHeld1=> ?_)
    ·exact⟨HR0d.out.bk.cell 0 rfl,HR0d.out.bk.cell 1 rfl,HR0d.out.bk.cell 2 rfl,HR0d.out.bk.cell 3 rfl⟩
    generalize W0.drew=WD at*
    refine tkH 0 ?_ (y:=Z8)
    try simp only[ap]
    refine tkH 1 ?_ (y:=Z8)
    try simp only[ap]
    refine tkH 2 ?_ (y:=Z8)
    try simp only[ap]
    refine tkH 3 ?_ (y:=Z8)
    try simp only[ap]
    refine tkH 8 ?_ (y:=Z8)
    try simp only[ap]
    refine tkH 9 ?_ (y:=Z8)
    try simp only[ap]
    refine wpAnyH_ready (rs:= [4,10]) Z27 Z93 ?_
    refine(AllReadyH.cons (o:= ?o7_4) ?h7_4 (fun K hK=> ?s7_4) (AllReadyH.cons (o:= ?o7_10) ?h7_10 (fun K hK=> ?s7_10) AllReadyH.nil))
    case h7_4=>exact Z20
    case h7_10=>exact Z20
    case s7_4=>
     go_simp
     refine(last_any o ua uc WD HAO.out.1 HAO.out.2).mono ?_
     rintro e WW1 ⟨rfl,hb⟩
     have HR1:=Lib.hid (HR0d.out.call hb)
     clear hb
     rw[←HLS.out]
     go_wp2_with fail
     refine hK.out _ _ ?_ (fun hHeld107=> ?_)
     ·exact⟨HR1.out.bk.cell 0 rfl,HR1.out.bk.cell 1 rfl,HR1.out.bk.cell 2 rfl,HR1.out.bk.cell 3 rfl⟩
     clear hK
     try simp only[ap]
     refine tkH 5 ?_ (y:=Z8)
     try simp only[ap]
     refine wpAnyH_ready (rs:= [6,10]) Z27 Z93 ?_
     refine(AllReadyH.cons (o:= ?o9_6) ?h9_6 (fun K hK=> ?s9_6) (AllReadyH.cons (o:= ?o9_10) ?h9_10 (fun K hK=> ?s9_10) AllReadyH.nil))
     case h9_6=>exact Z20
     case h9_10=>exact Z20
     case s9_6=>
      go_simp
      have HR2:=Lib.hid (HR1.out.one1)
      rw[←HLS.out] at HR2
      refine hK.out _ _ ?_ (fun hHeld109=> ?_)
      ·exact⟨HR2.out.bk.cell 0 rfl,HR2.out.bk.cell 1 rfl,HR2.out.bk.cell 2 rfl,HR2.out.bk.cell 3 rfl⟩
      clear hK
      try simp only[ap]
      generalize (WW1.alloc (.cells #[.int .i64 (o.nr:Int),.int .i64 (ls:Int)] 124))=WW2 at*
      refine wpAnyH_ready (rs:= [7,10]) Z27 Z93 ?_
      refine(AllReadyH.cons (o:= ?o10_7) ?h10_7 (fun K hK=> ?s10_7) (AllReadyH.cons (o:= ?o10_10) ?h10_10 (fun K hK=> ?s10_10) AllReadyH.nil))
      case h10_7=>exact Z20
      case h10_10=>exact Z20
      case s10_7=>
       obtain⟨aa3,kk3,qq3,WW3,hrun,cc3,hr⟩:=HR2.out.app1 HNJ.out
       refine hs_execK Z31 (exec_appK (.tmp 69) (.tmp 75) 121 rfl rfl rfl hrun) ?_
       have HR3:=Lib.hid hr
       clear hr hrun
       refine hK.out _ _ ?_ (fun hHeld110=> ?_)
       ·exact⟨HR3.out.bk.cell 0 rfl,HR3.out.bk.cell 1 rfl,HR3.out.bk.cell 2 rfl,HR3.out.bk.cell 3 rfl⟩
       clear hK
       try simp only[ap]
       refine wpAnyH_ready (rs:= [10]) Z27 Z93 ?_
       refine(AllReadyH.cons (o:= ?o11_10) ?h11_10 (fun K hK=> ?s11_10) AllReadyH.nil)
       case h11_10=>exact Z20
       case s11_10=>
        go_simp
        have HR4:=Lib.hid (HR3.out.one2)
        refine hK.out _ _ ?_ (fun hHeld111=> ?_)
        ·exact⟨HR4.out.bk.cell 0 rfl,HR4.out.bk.cell 1 rfl,HR4.out.bk.cell 2 rfl,HR4.out.bk.cell 3 rfl⟩
        clear hK
        try simp only[ap]
        generalize (WW3.alloc (.cells #[.int .i64 (o.nr:Int),.int .i64 (o.ao:Int),.int .i64 (o.cm:Int),.slice ua o.ops.length uc] 105))=WW4 at*
        refine wpAnyH_ready (rs:= [11]) Z27 Z93 ?_
        refine(AllReadyH.cons (o:= ?o12_11) ?h12_11 (fun K hK=> ?s12_11) AllReadyH.nil)
        case h12_11=>exact Z20
        case s12_11=>
         obtain⟨aa5,kk5,qq5,WW5,hrun,cc5,hr⟩:=HR4.out.app2 HNJ.out
         refine hs_execK Z31 (exec_appK (.tmp 77) (.tmp 79) 122 rfl rfl rfl hrun) ?_
         have HR5:=Lib.hid hr
         clear hr hrun
         refine hK.out _ _ ?_ (fun hHeld112=> ?_)
         ·exact⟨HR5.out.bk.cell 0 rfl,HR5.out.bk.cell 1 rfl,HR5.out.bk.cell 2 rfl,HR5.out.bk.cell 3 rfl⟩
         clear hK
         try simp only[ap]
         refine tkH 12 ?_ (y:=Z8)
         try simp only[ap]
         refine tkH 13 ?_ (y:=Z8)
         try simp only[ap]
         refine wpAnyH_done Z27 ?_ _
         have HN:Hid (∃c'',Ga c3 w3 L (.slice aa3 kk3 qq3) (.slice aa5 kk5 qq5) (offN r (j+1)) (offN r (j+1)) c'' WW5):=Lib.hid ⟨_,by rw[offN_some HO.out.1];exact HR5.out.ga⟩
         exact Z180
      case s10_10=>
       go_simp
       have HR6:=Lib.hid (HR2.out.one2)
       refine hK.out _ _ ?_ (fun hHeld110=> ?_)
       ·exact⟨HR6.out.bk.cell 0 rfl,HR6.out.bk.cell 1 rfl,HR6.out.bk.cell 2 rfl,HR6.out.bk.cell 3 rfl⟩
       clear hK
       try simp only[ap]
       generalize (WW2.alloc (.cells #[.int .i64 (o.nr:Int),.int .i64 (o.ao:Int),.int .i64 (o.cm:Int),.slice ua o.ops.length uc] 105))=WW6 at*
       refine wpAnyH_ready (rs:= [7]) Z27 Z93 ?_
       refine(AllReadyH.cons (o:= ?o15_7) ?h15_7 (fun K hK=> ?s15_7) AllReadyH.nil)
       case h15_7=>exact Z20
       case s15_7=>
        obtain⟨aa7,kk7,qq7,WW7,hrun,cc7,hr⟩:=HR6.out.app1 HNJ.out
        refine hs_execK Z31 (exec_appK (.tmp 69) (.tmp 75) 121 rfl rfl rfl hrun) ?_
        have HR7:=Lib.hid hr
        clear hr hrun
        refine hK.out _ _ ?_ (fun hHeld115=> ?_)
        ·exact⟨HR7.out.bk.cell 0 rfl,HR7.out.bk.cell 1 rfl,HR7.out.bk.cell 2 rfl,HR7.out.bk.cell 3 rfl⟩
        clear hK
        try simp only[ap]
        refine wpAnyH_ready (rs:= [11]) Z27 Z93 ?_
        refine(AllReadyH.cons (o:= ?o16_11) ?h16_11 (fun K hK=> ?s16_11) AllReadyH.nil)
        case h16_11=>exact Z20
        case s16_11=>
         obtain⟨aa8,kk8,qq8,WW8,hrun,cc8,hr⟩:=HR7.out.app2 HNJ.out
         refine hs_execK Z31 (exec_appK (.tmp 77) (.tmp 79) 122 rfl rfl rfl hrun) ?_
         have HR8:=Lib.hid hr
         clear hr hrun
         refine hK.out _ _ ?_ (fun hHeld116=> ?_)
         ·exact⟨HR8.out.bk.cell 0 rfl,HR8.out.bk.cell 1 rfl,HR8.out.bk.cell 2 rfl,HR8.out.bk.cell 3 rfl⟩
         clear hK
         try simp only[ap]
         refine tkH 12 ?_ (y:=Z8)
         try simp only[ap]
         refine tkH 13 ?_ (y:=Z8)
         try simp only[ap]
         refine wpAnyH_done Z27 ?_ _
         have HN:Hid (∃c'',Ga c3 w3 L (.slice aa7 kk7 qq7) (.slice aa8 kk8 qq8) (offN r (j+1)) (offN r (j+1)) c'' WW8):=Lib.hid ⟨_,by rw[offN_some HO.out.1];exact HR8.out.ga⟩
         exact Z180
     case s9_10=>
      go_simp
      have HR9:=Lib.hid (HR1.out.one2)
      refine hK.out _ _ ?_ (fun hHeld109=> ?_)
      ·exact⟨HR9.out.bk.cell 0 rfl,HR9.out.bk.cell 1 rfl,HR9.out.bk.cell 2 rfl,HR9.out.bk.cell 3 rfl⟩
      clear hK
      try simp only[ap]
      generalize (WW1.alloc (.cells #[.int .i64 (o.nr:Int),.int .i64 (o.ao:Int),.int .i64 (o.cm:Int),.slice ua o.ops.length uc] 105))=WW9 at*
      refine wpAnyH_ready (rs:= [6]) Z27 Z93 ?_
      refine(AllReadyH.cons (o:= ?o19_6) ?h19_6 (fun K hK=> ?s19_6) AllReadyH.nil)
      case h19_6=>exact Z20
      case s19_6=>
       go_simp
       have HR10:=Lib.hid (HR9.out.one1)
       rw[←HLS.out] at HR10
       refine hK.out _ _ ?_ (fun hHeld119=> ?_)
       ·exact⟨HR10.out.bk.cell 0 rfl,HR10.out.bk.cell 1 rfl,HR10.out.bk.cell 2 rfl,HR10.out.bk.cell 3 rfl⟩
       clear hK
       try simp only[ap]
       generalize (WW9.alloc (.cells #[.int .i64 (o.nr:Int),.int .i64 (ls:Int)] 124))=WW10 at*
       refine wpAnyH_ready (rs:= [7]) Z27 Z93 ?_
       refine(AllReadyH.cons (o:= ?o20_7) ?h20_7 (fun K hK=> ?s20_7) AllReadyH.nil)
       case h20_7=>exact Z20
       case s20_7=>
        obtain⟨aa11,kk11,qq11,WW11,hrun,cc11,hr⟩:=HR10.out.app1 HNJ.out
        refine hs_execK Z31 (exec_appK (.tmp 69) (.tmp 75) 121 rfl rfl rfl hrun) ?_
        have HR11:=Lib.hid hr
        clear hr hrun
        refine hK.out _ _ ?_ (fun hHeld120=> ?_)
        ·exact⟨HR11.out.bk.cell 0 rfl,HR11.out.bk.cell 1 rfl,HR11.out.bk.cell 2 rfl,HR11.out.bk.cell 3 rfl⟩
        clear hK
        try simp only[ap]
        refine wpAnyH_ready (rs:= [11]) Z27 Z93 ?_
        refine(AllReadyH.cons (o:= ?o21_11) ?h21_11 (fun K hK=> ?s21_11) AllReadyH.nil)
        case h21_11=>exact Z20
        case s21_11=>
         obtain⟨aa12,kk12,qq12,WW12,hrun,cc12,hr⟩:=HR11.out.app2 HNJ.out
         refine hs_execK Z31 (exec_appK (.tmp 77) (.tmp 79) 122 rfl rfl rfl hrun) ?_
         have HR12:=Lib.hid hr
         clear hr hrun
         refine hK.out _ _ ?_ (fun hHeld121=> ?_)
         ·exact⟨HR12.out.bk.cell 0 rfl,HR12.out.bk.cell 1 rfl,HR12.out.bk.cell 2 rfl,HR12.out.bk.cell 3 rfl⟩
         clear hK
         try simp only[ap]
         refine tkH 12 ?_ (y:=Z8)
         try simp only[ap]
         refine tkH 13 ?_ (y:=Z8)
         try simp only[ap]
         refine wpAnyH_done Z27 ?_ _
         have HN:Hid (∃c'',Ga c3 w3 L (.slice aa11 kk11 qq11) (.slice aa12 kk12 qq12) (offN r (j+1)) (offN r (j+1)) c'' WW12):=Lib.hid ⟨_,by rw[offN_some HO.out.1];exact HR12.out.ga⟩
         exact Z180
    case s7_10=>
     go_simp
     have HR13:=Lib.hid (HR0d.out.one2)
     refine hK.out _ _ ?_ (fun hHeld107=> ?_)
     ·exact⟨HR13.out.bk.cell 0 rfl,HR13.out.bk.cell 1 rfl,HR13.out.bk.cell 2 rfl,HR13.out.bk.cell 3 rfl⟩
     clear hK
     try simp only[ap]
     generalize (WD.alloc (.cells #[.int .i64 (o.nr:Int),.int .i64 (o.ao:Int),.int .i64 (o.cm:Int),.slice ua o.ops.length uc] 105))=WW13 at*
     refine wpAnyH_ready (rs:= [4]) Z27 Z93 ?_
     refine(AllReadyH.cons (o:= ?o24_4) ?h24_4 (fun K hK=> ?s24_4) AllReadyH.nil)
     case h24_4=>exact Z20
     case s24_4=>
      go_simp
      refine(last_any o ua uc WW13 HAO.out.1 HAO.out.2).mono ?_
      rintro e WW14 ⟨rfl,hb⟩
      have HR14:=Lib.hid (HR13.out.call hb)
      clear hb
      rw[←HLS.out]
      go_wp2_with fail
      refine hK.out _ _ ?_ (fun hHeld124=> ?_)
      ·exact⟨HR14.out.bk.cell 0 rfl,HR14.out.bk.cell 1 rfl,HR14.out.bk.cell 2 rfl,HR14.out.bk.cell 3 rfl⟩
      clear hK
      try simp only[ap]
      refine tkH 5 ?_ (y:=Z8)
      try simp only[ap]
      refine wpAnyH_ready (rs:= [6]) Z27 Z93 ?_
      refine(AllReadyH.cons (o:= ?o26_6) ?h26_6 (fun K hK=> ?s26_6) AllReadyH.nil)
      case h26_6=>exact Z20
      case s26_6=>
       go_simp
       have HR15:=Lib.hid (HR14.out.one1)
       rw[←HLS.out] at HR15
       refine hK.out _ _ ?_ (fun hHeld126=> ?_)
       ·exact⟨HR15.out.bk.cell 0 rfl,HR15.out.bk.cell 1 rfl,HR15.out.bk.cell 2 rfl,HR15.out.bk.cell 3 rfl⟩
       clear hK
       try simp only[ap]
       generalize (WW14.alloc (.cells #[.int .i64 (o.nr:Int),.int .i64 (ls:Int)] 124))=WW15 at*
       refine wpAnyH_ready (rs:= [7]) Z27 Z93 ?_
       refine(AllReadyH.cons (o:= ?o27_7) ?h27_7 (fun K hK=> ?s27_7) AllReadyH.nil)
       case h27_7=>exact Z20
       case s27_7=>
        obtain⟨aa16,kk16,qq16,WW16,hrun,cc16,hr⟩:=HR15.out.app1 HNJ.out
        refine hs_execK Z31 (exec_appK (.tmp 69) (.tmp 75) 121 rfl rfl rfl hrun) ?_
        have HR16:=Lib.hid hr
        clear hr hrun
        refine hK.out _ _ ?_ (fun hHeld127=> ?_)
        ·exact⟨HR16.out.bk.cell 0 rfl,HR16.out.bk.cell 1 rfl,HR16.out.bk.cell 2 rfl,HR16.out.bk.cell 3 rfl⟩
        clear hK
        try simp only[ap]
        refine wpAnyH_ready (rs:= [11]) Z27 Z93 ?_
        refine(AllReadyH.cons (o:= ?o28_11) ?h28_11 (fun K hK=> ?s28_11) AllReadyH.nil)
        case h28_11=>exact Z20
        case s28_11=>
         obtain⟨aa17,kk17,qq17,WW17,hrun,cc17,hr⟩:=HR16.out.app2 HNJ.out
         refine hs_execK Z31 (exec_appK (.tmp 77) (.tmp 79) 122 rfl rfl rfl hrun) ?_
         have HR17:=Lib.hid hr
         clear hr hrun
         refine hK.out _ _ ?_ (fun hHeld128=> ?_)
         ·exact⟨HR17.out.bk.cell 0 rfl,HR17.out.bk.cell 1 rfl,HR17.out.bk.cell 2 rfl,HR17.out.bk.cell 3 rfl⟩
         clear hK
         try simp only[ap]
         refine tkH 12 ?_ (y:=Z8)
         try simp only[ap]
         refine tkH 13 ?_ (y:=Z8)
         try simp only[ap]
         refine wpAnyH_done Z27 ?_ _
         have HN:Hid (∃c'',Ga c3 w3 L (.slice aa16 kk16 qq16) (.slice aa17 kk17 qq17) (offN r (j+1)) (offN r (j+1)) c'' WW17):=Lib.hid ⟨_,by rw[offN_some HO.out.1];exact HR17.out.ga⟩
         exact Z180
  case neg=>
  have t1: ¬(j:Int)<(r.n:Int):=by omega
  have hjn':j=r.n:=by omega
  subst hjn'
  have hnl:(offN r r.n).length=cn:=HCN.out.1.symm
  obtain⟨kb,o,hkb,hko,hbo⟩:=best_cas (offN r r.n) (by have h1:=HCN.out.2.1;have h2:=HMB.out;unfold mayBegin at h2;simp only[Bool.and_eq_true,decide_eq_true_eq] at h2;have h3:(offL r).length=(offN r r.n).length:=rfl;omega)
  have HBE:=Lib.hid (best_any (.slice ca (offN r r.n).length cq) (cas (offN r r.n)) wr (ca_rd HG.out.ca.sl) (by unfold cas;rw[List.length_map];have:=offN_len r r.n;have:=HH.out.2.2.2.1.n;omega))
  rw[show(cas (offN r r.n)).length=(offN r r.n).length from List.length_map _,hkb] at HBE
  unfold bV at HBE
  dsimp only at HBE
  have hkl:=(List.getElem?_eq_some_iff.1 hko).1
  obtain⟨bl,offl,capl,ul,hlv,hin,hcel⟩:=HG.out.of.sl.get (ofE_ok 1) hko
  injection hlv with e1 _ e3
  subst e1
  subst e3
  obtain⟨nj,hnj⟩: ∃nj,nj=(offN r r.n).length:=⟨_,rfl⟩
  have hin':OfI 1 c' wr ul o:=hin
  obtain⟨ua,uc,eu⟩:=hin'.s.slice
  subst eu
  have HL0:=Lib.hid (And.intro hbo (And.intro hin' (And.intro hcel (And.intro hnj hkl))))
  rw[←hnj] at HBE⊢
  have t2:(kb:Int)<(nj:Int):=by omega
  have t3:(kb:Nat)<nj:=by omega
  clear hnl hkb hko hbo hin hin' hcel hnj hkl t3
  go_upto_region 12 with fail
  go_wp2_with fail
  refine HBE.out.mono ?_
  rintro e w5 ⟨rfl,hb5⟩
  have hg5:=HG.out.new hb5
  have hu5:OfI 1 (c'.ext wr.heap.size) w5 (.slice ua o.ops.length uc) o:=(ofE_ok 1).keep _ _ _ _ _ _ HL0.out.2.1 hg5.2 fun k hk _=>hb5.block k hk
  have hz: ∀(j:Nat) (x:Value),(ofC o (.slice ua o.ops.length uc))[j]?=some x→w5.cell? ⟨bl,offl+kb*4+j,none⟩=some x:=fun j x hx=>by
   have h1:=HL0.out.2.2.1 j x hx
   have h2:=World.block_lt_of_cell? wr _ h1
   have h3:=hb5.block _ h2
   simp only[World.cell?,h3] at h1⊢
   exact h1
  have z0:=hz 0 _ rfl
  have z1:=hz 1 _ rfl
  have z2:=hz 2 _ rfl
  have z3:=hz 3 _ rfl
  rw[Nat.add_zero] at z0
  have HBR5:Hid (Below w.heap.size w w5):=Lib.hid (HBR.out.trans (hb5.mono HBR.out.size))
  obtain⟨c5,hc5⟩: ∃c5,c5=c'.ext wr.heap.size:=⟨_,rfl⟩
  rw[←hc5] at hg5 hu5
  have HG5:=Lib.hid (And.intro hg5.1 hu5)
  clear hb5 hg5 hu5 hz hc5 HBE
  go_wp2_with fail
  clear z0 z1 z2 z3 t1 t2
  obtain⟨w6,hw6⟩: ∃w6,w6=w5.alloc (.cells #[.int .i64 (o.nr:Int),.int .i64 (o.ao:Int),.int .i64 (o.cm:Int),.slice ua o.ops.length uc] 105):=⟨_,rfl⟩
  have hba6:Below w5.heap.size w5 w6:=by rw[hw6];exact(Below.refl _ _).alloc (Nat.le_refl _) _
  have hg6:=HG5.out.1.new hba6
  have hu6:OfI 1 (c5.ext w5.heap.size) w6 (.slice ua o.ops.length uc) o:=(ofE_ok 1).keep _ _ _ _ _ _ HG5.out.2 hg6.2 fun k hk _=>hba6.block k hk
  obtain⟨c6,hc6⟩: ∃c6,c6=c5.ext w5.heap.size:=⟨_,rfl⟩
  rw[←hc6] at hg6 hu6
  have HBR6:Hid (Below w.heap.size w w6):=Lib.hid (HBR5.out.trans (hba6.mono HBR5.out.size))
  have HV6:Hid (RV i c6 w6 p r):=Lib.hid (hg6.1.rv HV3.out HL.out.1)
  have HX6:Hid (Lx w c c6∧Row (ofE 1) c6 (L+1) w6 (.slice (some ⟨bl,offl,none⟩) nj lq) (offN r r.n)):=Lib.hid ⟨HC3.out.1.trans hg6.1.lx HB3.out.size,by rw[HL0.out.2.2.2.1];exact hg6.1.of⟩
  obtain⟨ko,hko1,hko2⟩: ∃ko,ko<r.n∧r.offs ko=some o:=by
   obtain⟨k,hk,h1⟩:=List.mem_filterMap.1 (bestO_mem _ _ HL0.out.1)
   exact⟨k,List.mem_range.1 hk,h1⟩
  have HOB:=Lib.hid (HH.out.2.2.2.2.1 ko o hko2)
  have HKO:=Lib.hid hko2
  have HLY:=Lib.hid (lay_any (i:=i) (lo:=1) (c:=c6) (r:=r) o.ao o.ops (.slice ua o.ops.length uc) p w6 HV6.out hu6.s Z11 HOB.out.2.1 HH.out.2.2.2.1.ls ⟨HH.out.2.2.2.1.lo.1,HH.out.2.2.2.1.lo.2,HOB.out.2.2.2.2.2,by
   have h1:=HOB.out.2.1
   have h2:=HH.out.2.2.2.1.ls
   have h3:=HH.out.2.2.2.1.lo
   have h4:TM=1099511627776:=rfl
   omega⟩)
  rw[←hw6]
  clear hw6 hba6 hg6 hu6 hc6 hko2
  refine HLY.out.mono ?_
  rintro e w7 ⟨rfl,c7,hx7,hf7,hv7⟩
  have HX7:Hid (Lx w c c7∧Fr (Fi i) c w w7∧Row (ofE 1) c7 (L+1) w7 (.slice (some ⟨bl,offl,none⟩) nj lq) (offN r r.n)):=Lib.hid ⟨HX6.out.1.trans hx7 HBR6.out.size,(Fr.of_below HBR6.out).trans HX6.out.1 hf7,HX6.out.2.frF HL.out.1 hx7 hf7⟩
  obtain⟨hlp7,lv7,hv7',xv7,sv7,uv7,hbp7,hrp7⟩:=hv7
  have HP7:=Lib.hid (And.intro hlp7 (And.intro hbp7 hrp7))
  have y2:=hbp7.cell 2 rfl
  have f2:=hbp7.frozen 2
  have y3:=hbp7.cell 3 rfl
  have y4:=hbp7.cell 4 rfl
  have f4:=hbp7.frozen 4
  clear hx7 hf7 hlp7 hbp7 hrp7 HLY
  obtain⟨at_,hat⟩: ∃at_,at_=max o.ao r.bs:=⟨_,rfl⟩
  have HAT:=Lib.hid hat
  rw[←hat]
  clear hat
  go_upto_region 14 with fail
  go_wp2_with fail
  obtain⟨vv,hvv⟩: ∃vv,vv=(lay r o.ao o.ops).vw:=⟨_,rfl⟩
  rw[←hvv]
  obtain⟨w8,hw8⟩: ∃w8,w8=(w7.setCell ⟨p,2,none⟩ (.int .i64 0)).setCell ⟨p,4,none⟩ (.int .i64 (vv:Int)):=⟨_,rfl⟩
  have hps8:Ps p w7 w8:=by rw[hw8];exact((Ps.refl p w7).set _ _).set _ _
  have hB8:Blk w8 p 94 (rpC {lay r o.ao o.ops with st:=0,nr:=r.vw} lv7 hv7' xv7 sv7 uv7):=by
   rw[hw8,hvv]
   exact(HP7.out.2.1.set 2 _).set 4 _
  obtain⟨r3,hr3⟩: ∃r3,r3= {lay r o.ao o.ops with st:=0,nr:=r.vw}:=⟨_,rfl⟩
  have HV8:Hid (RV i c7 w8 p r3):=Lib.hid (by
   rw[hr3]
   have h1:=HP7.out.2.2.ps HP7.out.1 hps8
   refine⟨HP7.out.1,lv7,hv7',xv7,sv7,uv7,hB8,⟨h1.lg,h1.hv,?_,h1.sv,h1.ou⟩⟩
   rcases h1.of with⟨h2,h3,h4⟩|h2
   ·exact Z149
   ·exact .inr h2)
  have hf8:Fr (Ri i) c7 w7 w8:=hps8.fr HP7.out.1
  have HX8:Hid (Lx w c c7∧Fr (Fi i) c w w8∧Row (ofE 1) c7 (L+1) w8 (.slice (some ⟨bl,offl,none⟩) nj lq) (offN r r.n)):=Lib.hid ⟨HX7.out.1,HX7.out.2.1.trans HX7.out.1 (hf8.mono fun l=>Ri_Fi),HX7.out.2.2.frF HL.out.1 (Lx.refl _ _) (hf8.mono fun l=>Ri_Fi)⟩
  have HR3:=Lib.hid hr3
  rw[←hw8]
  clear hw8 hps8 hB8 hf8 y2 f2 y3 y4 f4 hr3 hvv
  have HOL:Hid (o.last=r3.ls∧r3.ls≤r.bs+1000000∧r3.log.length≤1000000∧r3.ls=r.bs+r3.log.length):=Lib.hid (by
   have h1:=layL_len r o.ao o.ops HOB.out.2.1 HH.out.2.2.2.1.ls (by have h2:=HOB.out.2.2.2.1;have h3:=HH.out.2.2.2.1.bs;have h4:o.last=o.ao+o.ops.length:=rfl;omega)
   have h2:=HOB.out.2.2.2.1
   have h3:=HH.out.2.2.2.1.bs
   have h4:o.last=o.ao+o.ops.length:=rfl
   have h5:=HOB.out.2.2.2.2.1
   rw[HR3.out]
   refine⟨?_,?_,?_,rfl⟩
   ·show o.last=r.bs+(layL r o.ao o.ops).length
    omega
   ·show r.bs+(layL r o.ao o.ops).length≤_
    omega
   ·show(layL r o.ao o.ops).length≤_
    omega)
  go_loopw [105] (fun k wr=> ∃j:Nat,k= .int .i64 (j:Int)∧j≤nj∧ ∃c'',Lx w8 c7 c''∧Fr (Ri i) c7 w8 wr∧RV i c'' wr p {r3 with cm:=cmN r (offN r r.n) r3.ls j}) (fun k _=>nj-(intOf k).toNat)
  case atStart=>
   refine⟨0,rfl,Nat.zero_le _,c7,Lx.refl _ _,Fr.refl _ _ _,?_⟩
   have e:{r3 with cm:=cmN r (offN r r.n) r3.ls 0} =r3:=by rw[HR3.out];rfl
   rw[e];exact HV8.out
  case round=>
   obtain⟨j,rfl,hj2,cr,hxr,hfr,hvr⟩:=hrel
   by_cases hjn2:j<nj
   case pos=>
    have t1:(j:Int)<(nj:Int):=by omega
    obtain⟨x,hx⟩: ∃x,(offN r r.n)[j]?=some x:=⟨_,List.getElem?_eq_getElem (by rw[←HL0.out.2.2.2.1];exact hjn2)⟩
    obtain⟨bl',offl',capl',ux,hlv,hin,hcel⟩:=HX8.out.2.2.sl.get (ofE_ok 1) hx
    injection hlv with e1 _ e3
    injection e1 with e1
    injection e1 with e1 e2 _
    subst e1
    subst e2
    have hin':OfI 1 c7 w8 ux x:=hin
    obtain⟨xa,xc,eu⟩:=hin'.s.slice
    subst eu
    have hz: ∀(q:Nat) (y:Value),(ofC x (.slice xa x.ops.length xc))[q]?=some y→wr.cell? ⟨bl,offl+j*4+q,none⟩=some y:=fun q y hy=>by
     have h1:=hcel q y hy
     have h2:=World.block_lt_of_cell? w8 _ h1
     have h3:=hfr.block _ h2 (by
      have h4:=HX8.out.2.2.lb bl rfl
      rw[h4]
      unfold Ri
      have:=HL.out.1
      omega)
     simp only[World.cell?,h3] at h1⊢
     exact h1
    have z0:=hz 0 _ rfl
    have z1:=hz 1 _ rfl
    have z2:=hz 2 _ rfl
    have z3:=hz 3 _ rfl
    rw[Nat.add_zero] at z0
    have HXR:=Lib.hid (And.intro hxr (And.intro hfr (And.intro hvr hx)))
    clear hxr hfr hvr hx hin hin' hcel hz
    go_upto_region 18 with fail
    clear z0 z1 z2 z3 t1
    obtain⟨wx,hwx⟩: ∃wx,wx=wr.alloc (.cells #[.int .i64 (x.nr:Int),.int .i64 (x.ao:Int),.int .i64 (x.cm:Int),.slice xa x.ops.length xc] 105):=⟨_,rfl⟩
    obtain⟨b14,hb14⟩: ∃b14,b14=wr.heap.size:=⟨_,rfl⟩
    have hbx:Below wr.heap.size wr wx:=by rw[hwx];exact(Below.refl _ _).alloc (Nat.le_refl _) _
    have hB14:Blk wx b14 105 (ofC x (.slice xa x.ops.length xc)):=by rw[hwx,hb14];exact Blk.new wr 105 _
    obtain⟨cx,hcx⟩: ∃cx,cx=cr.ext wr.heap.size:=⟨_,rfl⟩
    have hxx:Lx wr cr cx:=by rw[hcx];exact cr.ext_lx wr
    have HVX:=HXR.out.2.2.1.below hxx hbx
    obtain⟨hlpx,lvx,hvx,xvx,svx,uvx,hbpx,hrpx⟩:=HVX
    have HPX:=Lib.hid (And.intro hlpx (And.intro hbpx hrpx))
    have HXX:Hid (Lx w8 c7 cx∧Fr (Ri i) c7 w8 wx):=Lib.hid ⟨HXR.out.1.trans hxx HXR.out.2.1.size,HXR.out.2.1.trans HXR.out.1 (Fr.of_below hbx)⟩
    rw[←hwx,←hb14]
    have y7:wx.cell? ⟨p,7,none⟩=some (.int .i64 (cmN r (offN r r.n) r3.ls j:Int)):=hbpx.cell 7 rfl
    have f7:=hbpx.frozen 7
    have y9:wx.cell? ⟨p,9,none⟩=some (.int .i64 (r3.ls:Int)):=hbpx.cell 9 rfl
    have z2:wx.cell? ⟨b14,2,none⟩=some (.int .i64 (x.cm:Int)):=hB14.cell 2 rfl
    obtain⟨k0,hk0⟩: ∃k0,k0=cmN r (offN r r.n) r3.ls j:=⟨_,rfl⟩
    obtain⟨k1',hk1'⟩: ∃k1',k1'=min x.cm r3.ls:=⟨_,rfl⟩
    obtain⟨k2',hk2'⟩: ∃k2',k2'=max k0 k1':=⟨_,rfl⟩
    have hmn:min (x.cm:Int) (r3.ls:Int)=(k1':Int):=by omega
    have hmx:max (k0:Int) (k1':Int)=(k2':Int):=by omega
    have HKK:Hid (cmN r (offN r r.n) r3.ls (j+1)=k2'):=Lib.hid (by rw[cmN_succ HXR.out.2.2.2,←hk0,←hk1',←hk2'])
    have HK0:=Lib.hid hk0
    rw[←hk0] at y7
    have hjl:j<nj:=hjn2
    clear hwx hb14 hbx hB14 hcx hxx hlpx hbpx hrpx hk0 hk1' hk2' hjn2
    go_region
    have HN:Hid (∃c'',Lx w8 c7 c''∧Fr (Ri i) c7 w8 (wx.setCell ⟨p,7,none⟩ (.int .i64 (k2':Int))).drew∧RV i c'' (wx.setCell ⟨p,7,none⟩ (.int .i64 (k2':Int))).drew p {r3 with cm:=cmN r (offN r r.n) r3.ls (j+1)}):=Lib.hid (by
     have hps:Ps p wx (wx.setCell ⟨p,7,none⟩ (.int .i64 (k2':Int))).drew:=((Ps.refl p wx).set _ _).drew
     refine⟨cx,HXX.out.1,HXX.out.2.trans HXX.out.1 (hps.fr HPX.out.1),HPX.out.1,lvx,hvx,xvx,svx,uvx,?_,?_⟩
     ·rw[HKK.out]
      exact(HPX.out.2.1.set 7 _).drew
     ·have h1:=HPX.out.2.2.ps HPX.out.1 hps
      exact⟨h1.lg,h1.hv,h1.of,h1.sv,h1.ou⟩)
    have hn9:nj≤7:=by have h1:=HL0.out.2.2.2.1;have h2:=offN_len r r.n;have h3:=HH.out.2.2.2.1.n;omega
    clear y7 f7 y9 z2 hmn hmx
    exact Z180
   case neg=>
    have t1: ¬(j:Int)<(nj:Int):=by omega
    have hjn3:j=nj:=by omega
    obtain⟨r4,hr4⟩: ∃r4,r4= {r3 with cm:=cmN r (offN r r.n) r3.ls j}:=⟨_,rfl⟩
    rw[←hr4] at hvr
    have HR4:Hid (r4= {r3 with cm:=(offL r).foldl (fun c x=>max c (min x.cm r3.ls)) r.cm}):=Lib.hid (by
     rw[hr4,hjn3]
     have e:cmN r (offN r r.n) r3.ls nj=(offL r).foldl (fun c x=>max c (min x.cm r3.ls)) r.cm:=by
      unfold cmN
      rw[List.take_of_length_le (by rw[HL0.out.2.2.2.1];exact Nat.le_refl _)]
      rfl
     rw[e])
    have HXR:Hid (Lx w c cr∧Fr (Fi i) c w wr):=Lib.hid ⟨HX8.out.1.trans hxr HX8.out.2.1.size,HX8.out.2.1.trans HX8.out.1 (hfr.mono fun l=>Ri_Fi)⟩
    obtain⟨hlp4,lv4,hv4,xv4,sv4,uv4,hbp4,hrp4⟩:=hvr
    have HP4:=Lib.hid (And.intro hlp4 (And.intro hbp4 hrp4))
    have hn4:r4.n=r.n:=by rw[HR4.out,HR3.out];rfl
    have y1:wr.cell? ⟨p,1,none⟩=some (.int .i64 (r.n:Int)):=by rw[←hn4];exact hbp4.cell 1 rfl
    have y12:=hbp4.cell 12 rfl
    have f12:=hbp4.frozen 12
    have y13:=hbp4.cell 13 rfl
    have f13:=hbp4.frozen 13
    have hpr:p<wr.heap.size:=hbp4.lt
    have hmk:=make_ints r.n Z146
    clear hxr hfr hlp4 hbp4 hrp4 hr4 hjn3 hjn2 hn4
    go_upto_region 20 with fail
    clear t1
    go_region
    obtain⟨w9,hw9⟩: ∃w9,w9=(((wr.setCell ⟨p,13,none⟩ (.map none)).setCell ⟨p,12,none⟩ (.slice (some ⟨wr.heap.size,0,none⟩) r.n r.n)).alloc (.cells (Array.replicate r.n (.int .i64 0)) 3)).drew:=⟨_,rfl⟩
    rw[←hw9]
    obtain⟨wm,hwm⟩: ∃wm,wm=(wr.setCell ⟨p,13,none⟩ (.map none)).setCell ⟨p,12,none⟩ (.slice (some ⟨wr.heap.size,0,none⟩) r.n r.n):=⟨_,rfl⟩
    have hpsm:Ps p wr wm:=by rw[hwm];exact((Ps.refl p wr).set _ _).set _ _
    have hBm:Blk wm p 94 (rpC {r4 with offs:=fun _=>none,hv:=List.replicate r.n 0} lv4 (.slice (some ⟨wr.heap.size,0,none⟩) r.n r.n) (.map none) sv4 uv4):=by rw[hwm];exact(HP4.out.2.1.set 13 _).set 12 _
    rw[←hwm] at hw9
    have hba:Below wm.heap.size wm w9:=by rw[hw9];exact((Below.refl _ _).alloc (Nat.le_refl _) _).drew
    obtain⟨c9,hc9⟩: ∃c9,c9=cr.row (.slice (some ⟨wr.heap.size,0,none⟩) r.n r.n) (12+10*i):=⟨_,rfl⟩
    have hx9:Lx wr cr c9:=fun k hk=>by
     rw[hc9]
     unfold Lb.row
     rw[if_neg]
     intro e
     have e':some wr.heap.size=some k:=e
     cases e'
     omega
    have hx9m:Lx wm cr c9:=fun k hk=>hx9 k (by rw[←hpsm.size];exact hk)
    obtain⟨r5,hr5⟩: ∃r5,r5=begun1 r o:=⟨_,rfl⟩
    have he5:{r4 with offs:=fun _=>none,hv:=List.replicate r.n 0} =r5:=by rw[hr5,HR4.out,HR3.out];rfl
    have HV9:Hid (RV i c9 w9 p r5):=Lib.hid (by
     rw[←he5]
     have h1:=(HP4.out.2.2.ps HP4.out.1 hpsm).below hx9m hba
     refine⟨(hx9 p hpr).trans HP4.out.1,lv4,.slice (some ⟨wr.heap.size,0,none⟩) r.n r.n,.map none,sv4,uv4,hBm.below hba (by rw[hpsm.size];exact hpr),⟨h1.lg,⟨⟨List.replicate r.n undef,⟨Z93,fun _ _ _ _ _=>trivial⟩,?_⟩,fun g hg=> ?_⟩,.inl ⟨rfl,?_,fun _=>rfl⟩,h1.sv,h1.ou⟩⟩
     ·rw[flat_nt _ _ Z93]
      have h2:(ints (List.replicate r.n 0)).map (Value.int .i64)=List.replicate r.n (Value.int .i64 0):=by unfold ints;simp
      show w9.ownsRow 0 _ 1 (.slice (some ⟨wr.heap.size,0,none⟩) r.n r.n) (List.replicate r.n 0).length ((ints (List.replicate r.n 0)).map (Value.int .i64))
      rw[h2,List.length_replicate,hw9,←hpsm.size]
      have h3:=own_new wm r.n Z146
      simp only[List.toArray_replicate] at h3
      exact h3
     ·cases hg
      rw[hc9]
      exact if_pos rfl
     ·show r4.st≠1
      rw[HR4.out,HR3.out]
      show(0:Nat)≠1
      omega)
    have HX9:Hid (Lx w c c9∧Fr (Fi i) c w w9):=Lib.hid (by
     have hfm:Fr (Fi i) cr wr wm:=hpsm.fr (by rw[HP4.out.1];exact Fi_0 i)
     exact⟨HXR.out.1.trans hx9 HXR.out.2.size,(HXR.out.2.trans HXR.out.1 hfm).trans (HXR.out.1.trans (Lx.refl _ _) HXR.out.2.size) (Fr.of_below hba)⟩)
    have hli:=HH.out.2.2.2.1.begun HH.out.2.2.2.2.1 (o:=o) (k:=ko) (by
     have h1:=HKO.out
     exact h1) ⟨HH.out.2.2.2.2.2.1,HH.out.2.2.2.2.2.2⟩
    rw[←hr5,←HAT.out] at hli
    have HLI:=Lib.hid hli
    have HSZ:Hid (r5.saves.length≤49000∧r5.out.length≤49000∧r5.n=r.n∧r5.hv=List.replicate r.n 0):=Lib.hid (by
     rw[hr5]
     exact⟨HH.out.2.2.2.2.2.1,HH.out.2.2.2.2.2.2,rfl,rfl⟩)
    have HR5:=Lib.hid hr5
    have HSV:=Lib.hid (save_any (i:=i) (c:=c9) (r:=r5) at_ p w9 HV9.out HLI.out.1 ⟨by
     have h1:=HLI.out.2.1
     rw[hr5];exact h1,HLI.out.2.2⟩)
    clear hw9 hwm hpsm hBm hba hc9 hx9 hx9m hr5 he5 hli hmk y1 y12 f12 y13 f13 hpr
    go_upto_region 21 with fail
    go_wp2_with fail
    refine HSV.out.mono ?_
    rintro e w10 ⟨rfl,c10,hx10,hf10,hv10⟩
    have HX10:Hid (Lx w c c10∧Fr (Fi i) c w w10):=Lib.hid ⟨HX9.out.1.trans hx10 HX9.out.2.size,HX9.out.2.trans HX9.out.1 (hf10.mono fun l hl=>by unfold Fi;omega)⟩
    obtain⟨r6,hr6⟩: ∃r6,r6=save r5 at_:=⟨_,rfl⟩
    rw[←hr6] at hv10
    have HV10:=Lib.hid hv10
    have HR6:=Lib.hid hr6
    have HL6:Hid (LI r6∧r6.out.length≤49000∧r6.n=r.n∧r6.hv=List.replicate r.n 0):=Lib.hid (by
     rw[hr6]
     exact⟨HLI.out.1.save at_ (by have:=HSZ.out.1;omega),HSZ.out.2.1,HSZ.out.2.2.1,HSZ.out.2.2.2⟩)
    clear hx10 hf10 hv10 HSV hr6
    obtain⟨hlp10,lv10,hv10,xv10,sv10,uv10,hbp10,hrp10⟩:=HV10.out
    have HAL2:=Lib.hid (all_any p w10 hbp10 (by have h1:=HL6.out.2.2.1;have h2:=HH.out.2.2.2.1.n;omega))
    clear hlp10 hbp10 hrp10
    go_upto_region 22 with fail
    go_wp2_with fail
    refine HAL2.out.mono ?_
    rintro e w11 ⟨v11,rfl,ho11,hb11⟩
    have HX11:Hid (Lx w c (c10.ext w10.heap.size)∧Fr (Fi i) c w w11∧RV i (c10.ext w10.heap.size) w11 p r6∧SlR ntE (c10.ext w10.heap.size) 1 w11 v11 (List.range r6.n)):=Lib.hid ⟨HX10.out.1.trans (c10.ext_lx w10) HX10.out.2.size,HX10.out.2.trans HX10.out.1 (Fr.of_below hb11),HV10.out.below (c10.ext_lx w10) hb11,all_sl (B:=0) ho11⟩
    obtain⟨a11,q11,e11⟩:=(Rd.of_own ho11).slice
    subst e11
    have HST2:=Lib.hid (start_any (i:=i) (c:=c10.ext w10.heap.size) (r:=r6) (List.range r6.n) (.slice a11 r6.n q11) p w11 HX11.out.2.2.1 HX11.out.2.2.2 (Gi_1 i) (by rw[List.length_range];have h1:=HL6.out.2.2.1;have h2:=HH.out.2.2.2.1.n;omega) HL6.out.1.lo.1 (by have:=HL6.out.2.1;omega))
    clear ho11 hb11
    go_wp2_with fail
    refine HST2.out.mono ?_
    rintro e w12 ⟨rfl,c12,hx12,hf12,hv12⟩
    have HX12:Hid (Lx w c c12∧Fr (Fi i) c w w12):=Lib.hid ⟨HX11.out.1.trans hx12 HX11.out.2.1.size,HX11.out.2.1.trans HX11.out.1 (hf12.mono fun l=>Gi_Fi)⟩
    have HCT:=Lib.hid (count_any (i:=i) (c:=c12) (r:=start r6 (List.range r6.n)) p w12 hv12 (by
     obtain⟨o',h1,h2⟩:=start_len r6 (List.range r6.n)
     rw[h1]
     refine HL6.out.1.outs o' ?_
     rw[List.length_range] at h2
     have h3:=HL6.out.2.2.1
     have h4:=HH.out.2.2.2.1.n
     have h5:=HL6.out.2.1
     omega) (by
     obtain⟨o',h1,h2⟩:=start_len r6 (List.range r6.n)
     rw[h1]
     intro k hk
     show r6.hv.getD k 0≤_
     rw[HL6.out.2.2.2,List.getD_eq_getElem?_getD,List.getElem?_replicate]
     split<;>simp))
    clear hx12 hf12 hv12
    go_wp2_with fail
    refine HCT.out.mono ?_
    rintro e w13 ⟨rfl,hm13⟩
    have HD:Hid (Mt (Fi i) i c w w13 p (begin_ r)):=Lib.hid (by
     have h1:begin_ r=count (start r6 (List.range r6.n)):=by
      have hbo:bestO (offL r)=some o:=HL0.out.1
      unfold begin_
      rw[if_pos HMB.out,hbo]
      rw[HR6.out,HR5.out,HAT.out]
     rw[h1]
     exact Mt.trans HX12.out.1 HX12.out.2 hm13)
    clear hm13
    exact Z36
end Go.Proofs.YtdmjegelcdghlaaGreat.Vw
