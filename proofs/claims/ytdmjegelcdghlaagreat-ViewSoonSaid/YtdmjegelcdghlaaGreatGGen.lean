/-
  General lemmas on memory, over any program: a block that is known whole (Blk), a slice that reads as a list of cells (Rd), and how both go through what a call does.
-/
import Derived.WalkKit
import Derived.WalkSpells
import Derived.WalkLawsBesides
import Derived.Lib.Builder
import Derived.Lib.Hide
import Derived.Deep.QuietTactic
import Derived.BigQuiet
import Derived.StillTailTactics
import Derived.OrdersHeld
import Derived.Deep.RegionHeld3
import Derived.Deep.RegionHeld
set_option maxRecDepth 100000
set_option maxHeartbeats 64000000
set_option linter.unusedVariables false
set_option linter.unusedSimpArgs false
namespace Go.Proofs.YtdmjegelcdghlaaGreat
theorem Z152 {p:Prop}(h:p:=by rw[ByteArray.toList_eq,ByteArray.toList_eq];exact h):p:=h
theorem Z127 {p:Prop}(h:p:=by
 rw[Addr.add_lit] at this
 exact this):p:=h
theorem Z93 {p:Prop}(h:p:=by simp):p:=h
theorem Z11 {p:Prop}(h:p:=by omega):p:=h
open Go.RowKit
theorem ret_bool {a b:Bool}(h:a=b):Ending.returned (.bool a)= .returned (.bool b):=by rw[h]
theorem ret_int {k:IntKind}{a b:Int}(h:a=b):Ending.returned (.int k a)= .returned (.int k b):=by rw[h]
def Blk (W:World)(b:Nat)(t:TypeId)(cs:List Value):Prop:=W.heap[b]?=some (.cells cs.toArray t (0,0))
theorem Blk.lt {W:World}{b:Nat}{t:TypeId}{cs:List Value}(h:Blk W b t cs):b<W.heap.size:=(Array.getElem?_eq_some_iff.1 h).1
theorem Blk.cell {W:World}{b:Nat}{t:TypeId}{cs:List Value}(h:Blk W b t cs)(j:Nat){v:Value}(hj:cs[j]?=some v):W.cell? ⟨b,j,none⟩=some v:=by
 rw[Lib.cell_of_heap h];simpa using hj
theorem Blk.frozen {W:World}{b:Nat}{t:TypeId}{cs:List Value}(h:Blk W b t cs)(j:Nat):W.frozen? ⟨b,j,none⟩=false:=Lib.frozen_of_heap h j
theorem Blk.new (W:World)(t:TypeId)(cs:List Value):Blk (W.alloc (.cells cs.toArray t)) W.heap.size t cs:=heap_alloc_new W _
theorem Blk.alloc {W:World}{b:Nat}{t:TypeId}{cs:List Value}(h:Blk W b t cs)(o:Obj):Blk (W.alloc o) b t cs:=(Lib.alloc_old W o b h.lt).trans h
theorem Blk.drew {W:World}{b:Nat}{t:TypeId}{cs:List Value}(h:Blk W b t cs):Blk W.drew b t cs:=h
theorem Blk.set {W:World}{b:Nat}{t:TypeId}{cs:List Value}(h:Blk W b t cs)(j:Nat)(v:Value):Blk (W.setCell ⟨b,j,none⟩ v) b t (cs.set j v):=by
 obtain⟨hlt,hk⟩:=Array.getElem?_eq_some_iff.1 h
 show(W.heap.modify b _)[b]?=_
 rw[Array.getElem?_eq_getElem (by rw[Array.size_modify];exact hlt),Array.getElem_modify_self,hk]
 simp
theorem Blk.setOther {W:World}{b:Nat}{t:TypeId}{cs:List Value}(h:Blk W b t cs)(p:Addr)(v:Value)(hp:b≠p.block):Blk (W.setCell p v) b t cs:=by
 unfold Blk;rw[Below.heap_setCell _ _ _ _ hp];exact h
theorem Blk.grown {W W':World}{row:Option Nat}{b:Nat}{t:TypeId}{cs:List Value}(h:Blk W b t cs)(hg:W.grownBy W' row)(hne: ∀r,row=some r→b≠r):Blk W' b t cs:=
 (hg.block b h.lt (fun e=>hne b e.symm rfl)).trans h
theorem Blk.below {W W':World}{B b:Nat}{t:TypeId}{cs:List Value}(h:Blk W b t cs)(hb:Below B W W')(hlt:b<B):Blk W' b t cs:=(hb.block b hlt).trans h
theorem cells_new (w:World)(vs:List Value)(e:TypeId): ∀j u,vs[j]?=some u→(w.alloc (.cells vs.toArray e)).cell? ((⟨w.heap.size,0,none⟩:Addr).add j)=some u:=by
 intro j u hu
 rw[Addr.add_lit]
 have h:(w.alloc (.cells vs.toArray e)).heap[w.heap.size]?=some (.cells vs.toArray e (0,0)):=heap_alloc_new w _
 rw[Lib.cell_of_heap h]
 simpa using hu
theorem below_app {B:Nat}{w wr w':World}{o:Obj}{v:Value}(hb:Below B w wr)(hB:B≤wr.heap.size)(hgrow:(wr.alloc o).grownBy w' v.ownBlock)(hlt: ∀k,v.ownBlock=some k→B≤k):Below B w w':=
 (hb.alloc hB o).grown hgrow (by simp;omega) hlt
theorem byte_one (l:List UInt8): ∀u∈Lib.byteCells l,u.oneCell'=true:=by
 intro u hu;simp only[Lib.byteCells,List.mem_map] at hu;obtain⟨x,_,rfl⟩:=hu;rfl
theorem bc_append (a b:List UInt8):Lib.byteCells (a++b)=Lib.byteCells a++Lib.byteCells b:=by simp[Lib.byteCells]
theorem bc_length (a:List UInt8):(Lib.byteCells a).length=a.length:=by simp[Lib.byteCells]
theorem own_cast {w:World}{B:Nat}{e:TypeId}{sz:Nat}{v:Value}{n m:Nat}{xs ys:List Value}(h:w.ownsRow B e sz v n xs)(hn:n=m)(hx:xs=ys):w.ownsRow B e sz v m ys:=by subst hn;subst hx;exact h
theorem own_mono {w:World}{B B':Nat}{e:TypeId}{size:Nat}{v:Value}{n:Nat}{xs:List Value}(h:w.ownsRow B e size v n xs)(hB:B'≤B):w.ownsRow B' e size v n xs:=by
 refine⟨h.1,?_⟩
 rcases h.2 with h2|⟨g,cap,cur,hv,hg,r⟩
 ·exact .inl h2
 ·exact .inr ⟨g,cap,cur,hv,Z11,r⟩
theorem own_below {w w':World}{B:Nat}{e:TypeId}{size:Nat}{v:Value}{n:Nat}{xs:List Value}(h:w.ownsRow B e size v n xs)(hb:Below w.heap.size w w'):w'.ownsRow B e size v n xs:=by
 refine⟨h.1,?_⟩
 rcases h.2 with h2|⟨g,cap,cur,hv,hg,hh,r⟩
 ·exact .inl h2
 ·exact .inr ⟨g,cap,cur,hv,hg,(hb.block g (Array.getElem?_eq_some_iff.1 hh).1).trans hh,r⟩
def Rd (W:World)(sz:Nat)(v:Value)(n:Nat)(cs:List Value):Prop:=
 cs.length=n*sz∧(((∃a cap,v= .slice a 0 cap)∧n=0)∨ ∃b off cap,v= .slice (some ⟨b,off,none⟩) n cap∧n≤cap∧ ∀j u,cs[j]?=some u→W.cell? ⟨b,off+j,none⟩=some u)
theorem Rd.nil (W:World)(sz:Nat):Rd W sz (.slice none 0 0) 0 []:=⟨Z93,.inl ⟨⟨_,_,rfl⟩,rfl⟩⟩
theorem Rd.of_own {W:World}{B:Nat}{e:TypeId}{sz:Nat}{v:Value}{n:Nat}{xs:List Value}(h:W.ownsRow B e sz v n xs):Rd W sz v n xs:=by
 refine⟨h.1,?_⟩
 rcases h.2 with⟨h2,h3⟩|⟨g,cap,cur,rfl,hg,hh,hn,r⟩
 ·exact .inl ⟨⟨_,_,h2⟩,h3⟩
 ·refine .inr ⟨g,0,cap,rfl,hn,fun j u hj=> ?_⟩
  have:=h.cells (g:=g) rfl j u hj
  exact Z127
theorem Rd.below {W W':World}{sz n:Nat}{v:Value}{cs:List Value}(h:Rd W sz v n cs)(hb:Below W.heap.size W W'):Rd W' sz v n cs:=by
 refine⟨h.1,?_⟩
 rcases h.2 with h2|⟨b,off,cap,rfl,hn,hc⟩
 ·exact .inl h2
 ·refine .inr ⟨b,off,cap,rfl,hn,fun j u hj=> ?_⟩
  have h1:=hc j u hj
  have hlt:=World.block_lt_of_cell? W _ h1
  rw[hb.cell hlt];exact h1
theorem Rd.slice {W:World}{sz n:Nat}{v:Value}{cs:List Value}(h:Rd W sz v n cs): ∃a cap,v= .slice a n cap:=by
 rcases h.2 with⟨⟨a,cap,rfl⟩,rfl⟩|⟨b,off,cap,rfl,_⟩
 ·exact⟨_,_,rfl⟩
 ·exact⟨_,_,rfl⟩
theorem Rd.pos {W:World}{sz n:Nat}{v:Value}{cs:List Value}(h:Rd W sz v n cs)(hn:0<n): ∃b off cap,v= .slice (some ⟨b,off,none⟩) n cap∧n≤cap∧ ∀j u,cs[j]?=some u→W.cell? ⟨b,off+j,none⟩=some u:=by
 rcases h.2 with⟨_,rfl⟩|h2
 ·omega
 ·exact h2
theorem below_drewN {B:Nat}{a w:World}(h:Below B a w)(n:Nat):Below B a (w.drewN n):=⟨h.os,h.tape,h.output,h.size,h.block⟩
theorem Blk.drewN {W:World}{b:Nat}{t:TypeId}{cs:List Value}(h:Blk W b t cs)(n:Nat):Blk (W.drewN n) b t cs:=h
theorem Rd.drewN {W:World}{sz n:Nat}{v:Value}{cs:List Value}(h:Rd W sz v n cs)(m:Nat):Rd (W.drewN m) sz v n cs:=h
theorem str_ne {a b:List UInt8}(h:(a==b)=false):((⟨a.toArray⟩:ByteArray).toList==(⟨b.toArray⟩:ByteArray).toList)=false:=by
 exact Z152
theorem str_eq {a b:List UInt8}(h:(a==b)=true):((⟨a.toArray⟩:ByteArray).toList==(⟨b.toArray⟩:ByteArray).toList)=true:=by
 exact Z152
theorem Z150 {p:Prop}(h:p:=by subst hji;exact⟨oi,v,hi,hy,H⟩):p:=h
theorem Z145 {p:Prop}(h:p:=by
 obtain⟨w',hr,hS'⟩:=hv w hS
 simp only[hw,if_true,Oper.wp,hr,Oper.upon];exact .inl (h w' hS')):p:=h
theorem Z111 {p:Prop}(h:p:=by
 simp only[hw,if_true,Oper.wp,he w hS,Oper.upon]
 refine .inl (Calls.mono (hc w hS) fun e w' ⟨h1,h2⟩=> ?_)
 subst h1
 exact h w' h2):p:=h
theorem Z105 {p:Prop}(h:p:=by
 have:=ready_mono hj hji
 rw[H.1] at this
 cases this):p:=h
theorem Z91 {p:Prop}(h:p:=by rw[h] at hr;cases hr):p:=h
theorem Z73 {p:Prop}(h:p:=by
 have h1:=hallj e he hb
 have h0:=(mem_ready.1 hr).1
 rw[heq] at h1
 rcases Nat.lt_or_ge i listed.size with h'|h'
 ·simp[h'] at h0 h1;rw[h0] at h1;cases h1
 ·simp[Array.getElem?_eq_none h'] at h1):p:=h
theorem Z50 {p:Prop}(h:p:=by
 refine⟨oj,u,hoj,hyj',ih (listed.setIfInBounds j true) (a.put oj.dst u) ?_ (ready_mono hr (Ne.symm hji)) hyi' ?_⟩
 ·intro k ok hk hki hun hno
  refine hfree k ok hk hki ?_ hno
  by_cases hjk:j=k
  ·subst hjk;exact hjun
  ·rw[getD_set_ne true hjk] at hun;exact hun
 ·rw[Array.setIfInBounds_comm _ _ hji,←Act.put_comm a v u h2]
  exact Hj):p:=h
section
variable {P:Program} {ops:Array Oper} {Q:Exit→Act→World→Prop} {md:Region.Mode} {S:World→Prop}
def StepU (P:Program)(ops:Array Oper)(S:World→Prop)(o:Oper)(v:Value)(a:Act):Prop:=
 (Region.wanted o (yielded ops a.tmps)=true∧ ∀w,S w→(execOp a.eval o).run P w= .ok (.value v) w)∨
 (Region.wanted o (yielded ops a.tmps)=false∧v=undef)∨
 (Region.wanted o (yielded ops a.tmps)=true∧ ∃f args,(∀w,S w→(execOp a.eval o).run P w= .ok (.enter f args) w)∧ ∀w,S w→Calls P f args w fun e w'=>e= .returned v∧S w')∨
 (Region.wanted o (yielded ops a.tmps)=true∧ ∀w,S w→ ∃w',(execOp a.eval o).run P w= .ok (.value v) w'∧S w')
theorem StepU.of_same {o:Oper}{v:Value}{a a':Act}(hy:StepU P ops S o v a)(he:execOp a'.eval o=execOp a.eval o)
 (hw:Region.wanted o (yielded ops a'.tmps)=Region.wanted o (yielded ops a.tmps)):StepU P ops S o v a':=by
 unfold StepU at*
 rw[he,hw]
 exact hy
theorem StepU.wpOp {i:Nat}{o:Oper}{v:Value}{a:Act}(hi:ops[i]?=some o)(hy:StepU P ops S o v a)
 {K:Act→World→Prop} {w:World} (hS:S w) (h: ∀w',S w'→K (a.put o.dst v) w'):wpOp P ops Q i K a w:=by
 unfold Go.wpOp
 simp only[hi]
 rcases hy with⟨hw,hv⟩|⟨hw,rfl⟩|⟨hw,f,args,he,hc⟩|⟨hw,hv⟩
 ·simp only[hw,if_true,Oper.wp,hv w hS,Oper.upon];exact .inl (h w hS)
 ·simp only[hw,Bool.false_eq_true,if_false];exact h w hS
 ·exact Z111
 ·exact Z145
def waitsOn (md:Region.Mode)(ops:Array Oper)(i k:Nat):Bool:=match ops[i]? with|some o=>o.after.toList.any fun e=>Region.binds md e&&e.on==k|none=>false
theorem waitsOn_spec {i k:Nat}{listed:Array Bool}(h:waitsOn md ops i k=true)(hun:listed.getD k true=false):i∉Region.ready md ops listed:=by
 intro hr
 obtain⟨_,o,ho,hall⟩:=mem_ready.1 hr
 unfold waitsOn at h
 simp only[ho,List.any_eq_true,Bool.and_eq_true,beq_iff_eq] at h
 obtain⟨e,he,hb,hon⟩:=h
 have h2:=hall e (by simpa using he) hb
 rw[hon] at h2
 rcases Nat.lt_or_ge k listed.size with h'|h'
 ·simp[h'] at hun h2;rw[hun] at h2;cases h2
 ·simp[Array.getElem?_eq_none h'] at h2
def waitsAll (md:Region.Mode)(ops:Array Oper)(i:Nat):Bool:=(List.range ops.size).all fun k=>k==i||(waitsOn md ops i k||waitsOn md ops k i)
theorem waitsAll_spec {i k:Nat}{listed:Array Bool}(h:waitsAll md ops i=true)(hk:k<ops.size)(hne:k≠i)(hr:k∈Region.ready md ops listed):i∉Region.ready md ops listed:=by
 intro hi
 have h1:=List.all_eq_true.1 h k (by simpa using hk)
 simp only[Bool.or_eq_true,beq_iff_eq,hne,false_or] at h1
 rcases h1 with h1|h1
 ·exact waitsOn_spec h1 (mem_ready.1 hr).1 hi
 ·exact waitsOn_spec h1 (mem_ready.1 hi).1 hr
def wpU (P:Program)(md:Region.Mode)(ops:Array Oper)(Q:Exit→Act→World→Prop)(S:World→Prop):Nat→Array Bool→Act→Prop
 |0,listed,a=>Region.ready md ops listed= []∧ ∀w,S w→Q .normal a w
 |fuel+1,listed,a=>(Region.ready md ops listed= []→ ∀w,S w→Q .normal a w)∧
  ((∃i,Region.ready md ops listed= [i]∧waitsAll md ops i=true∧ ∀w,S w→wpAny P md ops Q (fuel+1) listed a w)∨
   ∀i∈Region.ready md ops listed,∃o v,ops[i]?=some o∧StepU P ops S o v a∧wpU P md ops Q S fuel (listed.setIfInBounds i true) (a.put o.dst v))
theorem wpAny_of_U: ∀(fuel:Nat) (listed:Array Bool) (a:Act),wpU P md ops Q S fuel listed a→ ∀w,S w→wpAny P md ops Q fuel listed a w
 |0,_,_,h,w,hS=>⟨h.1,h.2 w hS⟩
 |fuel+1,listed,a,h,w,hS=>by
  rcases h.2 with⟨i,hr,_,hany⟩|hall
  ·exact hany w hS
  ·refine⟨fun h0=>h.1 h0 w hS,fun i hi=> ?_⟩
   obtain⟨o,v,ho,hy,hU⟩:=hall i hi
   exact hy.wpOp ho hS fun w' hS'=>wpAny_of_U fuel _ _ hU w' hS'
theorem wpU_first {i:Nat}{oi:Oper}{v:Value}(hi:ops[i]?=some oi)(hsel: ∀(j:Nat) (o:Oper) cs b,ops[j]?=some o→o.op≠ .select cs b):
 ∀(fuel:Nat) (listed:Array Bool) (a:Act),
  (∀j oj,ops[j]?=some oj→j≠i→listed.getD j true=false→(∀e∈oj.after,Region.binds md e=true→e.on≠i)→oi.apart ops oj=true)→
  i∈Region.ready md ops listed→StepU P ops S oi v a→
  wpU P md ops Q S fuel (listed.setIfInBounds i true) (a.put oi.dst v)→wpU P md ops Q S (fuel+1) listed a:=by
 intro fuel
 induction fuel with
 |zero=>
  intro listed a _ hr hy H
  refine⟨fun h=>Z91,.inr fun j hj=> ?_⟩
  by_cases hji:j=i
  ·exact Z150
  ·exact Z105
 |succ fuel ih=>
  intro listed a hfree hr hy H
  refine⟨fun h=>Z91,.inr fun j hj=> ?_⟩
  by_cases hji:j=i
  ·exact Z150
  ·have hj2:=ready_mono hj hji
   rcases H.2 with⟨i',hr',hwa,_⟩|hall
   ·rw[hr'] at hj2
    obtain rfl:j=i':=by simpa using hj2
    exact absurd hj (waitsAll_spec hwa (Array.getElem?_eq_some_iff.1 hi).1 (Ne.symm hji) hr)
   ·obtain⟨oj,u,hoj,hyj,Hj⟩:=hall j hj2
    obtain⟨hjun,oj',hoj',hallj⟩:=mem_ready.1 hj
    obtain rfl:oj=oj':=Option.some.inj (hoj.symm.trans hoj')
    have hnot: ∀e∈oj.after,Region.binds md e=true→e.on≠i:=fun e he hb heq=>by
     exact Z73
    obtain⟨h1,h2,h3⟩:=Oper.apart_spec (hfree j oj hoj hji hjun hnot)
    have hsi:=fun cs b=>hsel i oi cs b hi
    have hsj:=fun cs b=>hsel j oj cs b hoj
    have hyj':StepU P ops S oj u a:=hyj.of_same (execOp_put oj hsj a oi.dst v h1).symm (wanted_put oj a oi.dst v h1).symm
    have hyi':StepU P ops S oi v (a.put oj.dst u):=hy.of_same (execOp_put oi hsi a oj.dst u h3) (wanted_put oi a oj.dst u h3)
    exact Z50
theorem wpU_take {i:Nat}{oi:Oper}{v:Value}{fuel:Nat}{listed:Array Bool}{a:Act}(hi:ops[i]?=some oi)
 (hs:Region.noSelect ops=true) (hf:Region.free md ops listed i=true) (hr:(Region.ready md ops listed).contains i=true) (hy:StepU P ops S oi v a)
 (h:wpU P md ops Q S fuel (listed.setIfInBounds i true) (a.put oi.dst v)):wpU P md ops Q S (fuel+1) listed a:=
 wpU_first hi (Region.noSelect_spec hs) fuel listed a (Region.free_spec hi hf) (by simpa using hr) hy h
theorem wpU_done {listed:Array Bool}{a:Act}(hr:Region.ready md ops listed= [])(h: ∀w,S w→Q .normal a w): ∀fuel,wpU P md ops Q S fuel listed a
 |0=>⟨hr,h⟩
 |fuel+1=>⟨fun _=>h,.inr fun i hi=>by rw[hr] at hi;cases hi⟩
theorem wp_region_U {id:Nat}{a:Act}{w:World}(hm:P.follows .mixedOrders=true)(hS:S w.drew)(h:wpU P .any ops Q S ops.size (Array.replicate ops.size false) a):(Code.region id ops true).wp P Q a w:=
 wp_region_any hm (wpAny_of_U _ _ _ h _ hS)
end
section
variable {P:Program} {ops:Array Oper} {Q:Exit→Act→World→Prop} {md:Region.Mode} {S:World→Prop}
def chain (md:Region.Mode)(ops:Array Oper):Array Bool→List Nat→Bool
 |listed,[]=>(Region.ready md ops listed).isEmpty
 |listed,i::is=>Region.ready md ops listed== [i]&&(ops[i]?).isSome&&chain md ops (listed.setIfInBounds i true) is
theorem wpOp_of_list {i:Nat}{o:Oper}{rest:List Oper}{a:Act}{w:World}(hi:ops[i]?=some o)(h:wpList P ops Q (o::rest) a w):wpOp P ops Q i (fun a w=>wpList P ops Q rest a w) a w:=by
 unfold wpOp
 simp only[hi]
 simpa[wpList] using h
end
theorem Z204 {p:Prop}(h:p:=by
 have h0:=(mem_ready.1 hr).1
 rcases Nat.lt_or_ge i listed.size with h'|h'
 ·simp[Array.getD,h'] at h0 e;rw[h0] at e;cases e
 ·simp[Array.getD,show¬i<listed.size from Z12] at e):p:=h
theorem Z139 {p:Prop}(h:p:=by subst hji;exact hy.wpOp hi trivial ⟨fun h=>hS (by rw[getD_set_ne false (Ne.symm hki)] at h;exact h),H⟩):p:=h
theorem Z94 {p:Prop}(h:p:=by simp):p:=h
theorem Z12 {p:Prop}(h:p:=by omega):p:=h
section
variable {P:Program} {ops:Array Oper} {Q:Exit→Act→World→Prop} {md:Region.Mode} {S:World→Prop} {k:Nat}
def till (k:Nat)(S:World→Prop)(listed:Array Bool)(w:World):Prop:=listed.getD k false=false→S w
def wpAnyK (P:Program)(md:Region.Mode)(ops:Array Oper)(Q:Exit→Act→World→Prop)(S:World→Prop)(k:Nat):Nat→Array Bool→Act→World→Prop
 |0,listed,a,w=>Region.ready md ops listed= []∧Q .normal a w
 |fuel+1,listed,a,w=>
  (Region.ready md ops listed= []→Q .normal a w)∧
  ∀i∈Region.ready md ops listed,wpOp P ops Q i (fun a' w'=>till k S (listed.setIfInBounds i true) w'∧wpAnyK P md ops Q S k fuel (listed.setIfInBounds i true) a' w') a w
theorem wpAny_of_K: ∀(fuel:Nat) (listed:Array Bool) (a:Act) (w:World),wpAnyK P md ops Q S k fuel listed a w→wpAny P md ops Q fuel listed a w
 |0,_,_,_,h=>h
 |fuel+1,_,_,_,h=>⟨h.1,fun i hi=>wpOp_mono (fun a' w' h'=>wpAny_of_K fuel _ a' w' h'.2) (h.2 i hi)⟩
def waitsT (md:Region.Mode)(ops:Array Oper):Nat→Nat→Nat→Bool
 |0,_,_=>false
 |n+1,j,i=>match ops[j]? with
  |none=>false
  |some o=>o.after.toList.any fun e=>Region.binds md e&&(e.on==i||waitsT md ops n e.on i)
def closedL (md:Region.Mode)(ops:Array Oper)(listed:Array Bool):Prop:=
 ∀j o,listed.getD j false=true→ops[j]?=some o→ ∀e∈o.after,Region.binds md e=true→listed.getD e.on false=true
def closedB (md:Region.Mode)(ops:Array Oper)(listed:Array Bool):Bool:=
 (List.range ops.size).all fun j=> !(listed.getD j false)||(match ops[j]? with|none=>true|some o=>o.after.toList.all fun e=> !(Region.binds md e)||listed.getD e.on false)
theorem closedL_of {listed:Array Bool}(h:closedB md ops listed=true):closedL md ops listed:=by
 intro j o hj ho e he hb
 have hlt:j<ops.size:=(Array.getElem?_eq_some_iff.1 ho).1
 have h1:=List.all_eq_true.1 h j (List.mem_range.2 hlt)
 rw[hj,ho] at h1
 simp only[Bool.not_true,Bool.false_or,List.all_eq_true] at h1
 have h2:=h1 e (by simpa using he)
 rw[hb] at h2
 simpa using h2
theorem waitsT_listed {listed:Array Bool}(hc:closedL md ops listed): ∀(n j i:Nat),waitsT md ops n j i=true→(∀o,ops[j]?=some o→ ∀e∈o.after,Region.binds md e=true→listed.getD e.on false=true)→listed.getD i false=true:=by
 intro n
 induction n with
 |zero=>intro j i h;simp[waitsT] at h
 |succ n ih=>
  intro j i h hall
  unfold waitsT at h
  cases ho:ops[j]? with
  |none=>rw[ho] at h;simp at h
  |some o=>
   rw[ho] at h
   simp only[List.any_eq_true,Bool.and_eq_true,Bool.or_eq_true,beq_iff_eq] at h
   obtain⟨e,he,hb,h1⟩:=h
   have he':e∈o.after:=by simpa using he
   have h2:=hall o ho e he' hb
   rcases h1 with h1|h1
   ·rw[←h1];exact h2
   ·exact ih e.on i h1 fun o' ho' e' he2 hb'=>hc e.on o' h2 ho' e' he2 hb'
theorem getD_set_self' {listed:Array Bool}{i j:Nat}(h:listed.getD j false=true):(listed.setIfInBounds i true).getD j false=true:=by
 by_cases e:i=j
 ·subst e
  rcases Nat.lt_or_ge i listed.size with h1|h1
  ·simp[Array.getD,h1]
  ·simp[Array.getD,show¬i<listed.size from Z12] at h
 ·rw[getD_set_ne false e];exact h
theorem ready_listed {listed:Array Bool}{j:Nat}(hj:j∈Region.ready md ops listed): ∀o,ops[j]?=some o→ ∀e∈o.after,Region.binds md e=true→listed.getD e.on false=true:=by
 intro o ho e he hb
 obtain⟨_,oj,hoj,hall⟩:=mem_ready.1 hj
 rw[ho] at hoj
 cases hoj
 have:=hall e he hb
 rcases Nat.lt_or_ge e.on listed.size with h'|h'
 ·simp[Array.getD,h'] at this⊢;exact this
 ·simp[Array.getD,show¬e.on<listed.size from Z12] at this
theorem closed_step {listed:Array Bool}(hc:closedL md ops listed){j:Nat}(hj:j∈Region.ready md ops listed):closedL md ops (listed.setIfInBounds j true):=by
 intro i o hi ho e he hb
 refine getD_set_self' ?_
 by_cases e1:j=i
 ·subst e1
  exact ready_listed hj o ho e he hb
 ·rw[getD_set_ne false e1] at hi
  exact hc i o hi ho e he hb
theorem wpAnyK_first {i:Nat}{oi:Oper}{v:Value}{n:Nat}(hi:ops[i]?=some oi)(hsel: ∀(j:Nat) (o:Oper) cs b,ops[j]?=some o→o.op≠ .select cs b)
 (hQ: ∀c a w,Q (.panic c) (a.put oi.dst v) w→Q (.panic c) a w) (hki:k≠i) (hwt:waitsT md ops n k i=true):
 ∀(fuel:Nat) (listed:Array Bool) (a:Act) (w:World),
  (∀j oj,ops[j]?=some oj→j≠i→listed.getD j true=false→(∀e∈oj.after,Region.binds md e=true→e.on≠i)→oi.apart ops oj=true)→
  closedL md ops listed→listed.getD k false=false→
  i∈Region.ready md ops listed→YieldsIf P ops S oi v a→S w→
  wpAnyK P md ops Q S k fuel (listed.setIfInBounds i true) (a.put oi.dst v) w→wpAnyK P md ops Q S k (fuel+1) listed a w:=by
 intro fuel
 induction fuel with
 |zero=>
  intro listed a w _ _ _ hr hy hS H
  refine⟨fun h=>Z91,fun j hj=> ?_⟩
  by_cases hji:j=i
  ·subst hji;exact hy.wpOp hi hS ⟨fun _=>hS,H⟩
  ·exact Z105
 |succ fuel ih=>
  intro listed a w hfree hcl hk hr hy hS H
  refine⟨fun h=>Z91,fun j hj=> ?_⟩
  by_cases hji:j=i
  ·subst hji;exact hy.wpOp hi hS ⟨fun _=>hS,H⟩
  ·have h1:=H.2 j (ready_mono hj hji)
   obtain⟨hjun,oj,hoj,hall⟩:=mem_ready.1 hj
   have hin:listed.getD i false≠true:=fun e=>by
    exact Z204
   have hnot: ∀e∈oj.after,Region.binds md e=true→e.on≠i:=fun e he hb heq=>by
    have h1:=ready_listed hj oj hoj e he hb
    rw[heq] at h1
    exact hin h1
   have hjk:j≠k:=fun e=>by
    subst e
    exact hin (waitsT_listed hcl n j i hwt (ready_listed hj))
   have h2:=wpOp_putIf hoj (hfree j oj hoj hji hjun hnot) (fun cs b=>hsel i oi cs b hi) (fun cs b=>hsel j oj cs b hoj) hQ hy h1
   have hfree': ∀l ok,ops[l]?=some ok→l≠i→(listed.setIfInBounds j true).getD l true=false→
    (∀e∈ok.after,Region.binds md e=true→e.on≠i)→oi.apart ops ok=true:=fun l ok hl hli hun hno=>by
    refine hfree l ok hl hli ?_ hno
    by_cases hjl:j=l
    ·subst hjl;exact hjun
    ·rw[getD_set_ne true hjl] at hun;exact hun
   have hk2:(listed.setIfInBounds j true).getD k false=false:=by rw[getD_set_ne false hjk];exact hk
   refine wpOp_mono (fun a' w' h3=> ?_) h2
   have hS':S w':=h3.2.1 (by rw[getD_set_ne false hjk,getD_set_ne false (Ne.symm hki)];exact hk)
   refine⟨fun _=>hS',ih (listed.setIfInBounds j true) a' w' hfree' (closed_step hcl hj) hk2 (ready_mono hr (Ne.symm hji)) h3.1 hS' ?_⟩
   rw[Array.setIfInBounds_comm _ _ hji]
   exact h3.2.2
theorem wpAnyK_take {i:Nat}{oi:Oper}{v:Value}{n fuel:Nat}{listed:Array Bool}{a:Act}{w:World}(hi:ops[i]?=some oi)
 (hs:Region.noSelect ops=true) (hf:Region.free md ops listed i=true) (hr:(Region.ready md ops listed).contains i=true) (hwt:(waitsT md ops n k i&&closedB md ops listed&& !(listed.getD k false)&&(k !=i))=true)
 (hQ: ∀c a w,Q (.panic c) (a.put oi.dst v) w→Q (.panic c) a w) (hy:YieldsIf P ops S oi v a) (hS:S w)
 (h:wpAnyK P md ops Q S k fuel (listed.setIfInBounds i true) (a.put oi.dst v) w):wpAnyK P md ops Q S k (fuel+1) listed a w:=by
 simp only[Bool.and_eq_true,Bool.not_eq_true',bne_iff_ne,ne_eq] at hwt
 exact wpAnyK_first hi (Region.noSelect_spec hs) hQ hwt.2 hwt.1.1.1 fuel listed a w (Region.free_spec hi hf) (closedL_of hwt.1.1.2) hwt.1.2 (by simpa using hr) hy hS h
theorem wpAnyK_firstP {i:Nat}{oi:Oper}{v:Value}(hi:ops[i]?=some oi)(hsel: ∀(j:Nat) (o:Oper) cs b,ops[j]?=some o→o.op≠ .select cs b)
 (hQ: ∀c a w,Q (.panic c) (a.put oi.dst v) w→Q (.panic c) a w) (hki:k≠i):
 ∀(fuel:Nat) (listed:Array Bool) (a:Act) (w:World),
  (∀j oj,ops[j]?=some oj→j≠i→listed.getD j true=false→(∀e∈oj.after,Region.binds md e=true→e.on≠i)→oi.apart ops oj=true)→
  i∈Region.ready md ops listed→YieldsIf P ops (fun _=>True) oi v a→till k S listed w→
  wpAnyK P md ops Q S k fuel (listed.setIfInBounds i true) (a.put oi.dst v) w→wpAnyK P md ops Q S k (fuel+1) listed a w:=by
 intro fuel
 induction fuel with
 |zero=>
  intro listed a w _ hr hy hS H
  refine⟨fun h=>Z91,fun j hj=> ?_⟩
  by_cases hji:j=i
  ·exact Z139
  ·exact Z105
 |succ fuel ih=>
  intro listed a w hfree hr hy hS H
  refine⟨fun h=>Z91,fun j hj=> ?_⟩
  by_cases hji:j=i
  ·exact Z139
  ·have h1:=H.2 j (ready_mono hj hji)
   obtain⟨hjun,oj,hoj,hall⟩:=mem_ready.1 hj
   have hin:listed.getD i false≠true:=fun e=>by
    exact Z204
   have hnot: ∀e∈oj.after,Region.binds md e=true→e.on≠i:=fun e he hb heq=>by
    have h1:=ready_listed hj oj hoj e he hb
    rw[heq] at h1
    exact hin h1
   have h2:=wpOp_putIf hoj (hfree j oj hoj hji hjun hnot) (fun cs b=>hsel i oi cs b hi) (fun cs b=>hsel j oj cs b hoj) hQ hy h1
   have hfree': ∀l ok,ops[l]?=some ok→l≠i→(listed.setIfInBounds j true).getD l true=false→
    (∀e∈ok.after,Region.binds md e=true→e.on≠i)→oi.apart ops ok=true:=fun l ok hl hli hun hno=>by
    refine hfree l ok hl hli ?_ hno
    by_cases hjl:j=l
    ·subst hjl;exact hjun
    ·rw[getD_set_ne true hjl] at hun;exact hun
   refine wpOp_mono (fun a' w' h3=> ?_) h2
   have hS':till k S (listed.setIfInBounds j true) w':=fun h=>h3.2.1 (by
    rw[Array.setIfInBounds_comm _ _ (Ne.symm hji),getD_set_ne false (Ne.symm hki)]
    exact h)
   refine⟨hS',ih (listed.setIfInBounds j true) a' w' hfree' (ready_mono hr (Ne.symm hji)) h3.1 hS' ?_⟩
   rw[Array.setIfInBounds_comm _ _ hji]
   exact h3.2.2
theorem wpAnyK_takeP {i:Nat}{oi:Oper}{v:Value}{fuel:Nat}{listed:Array Bool}{a:Act}{w:World}(hi:ops[i]?=some oi)
 (hs:Region.noSelect ops=true) (hf:Region.free md ops listed i=true) (hr:(Region.ready md ops listed).contains i=true) (hki:(k !=i)=true)
 (hQ: ∀c a w,Q (.panic c) (a.put oi.dst v) w→Q (.panic c) a w) (hy:YieldsIf P ops (fun _=>True) oi v a) (hS:S w)
 (h:wpAnyK P md ops Q S k fuel (listed.setIfInBounds i true) (a.put oi.dst v) w):wpAnyK P md ops Q S k (fuel+1) listed a w:=by
 simp only[bne_iff_ne,ne_eq] at hki
 exact wpAnyK_firstP hi (Region.noSelect_spec hs) hQ hki fuel listed a w (Region.free_spec hi hf) (by simpa using hr) hy (fun _=>hS) h
def AllReadyK (P:Program)(md:Region.Mode)(ops:Array Oper)(Q:Exit→Act→World→Prop)(S:World→Prop)(k:Nat)(fuel:Nat)(listed:Array Bool)(a:Act)(w:World)(rs:List Nat):Prop:=
 ∀i∈rs,wpOp P ops Q i (fun a' w'=>till k S (listed.setIfInBounds i true) w'∧wpAnyK P md ops Q S k fuel (listed.setIfInBounds i true) a' w') a w
theorem AllReadyK.nil {fuel:Nat}{listed:Array Bool}{a:Act}{w:World}:AllReadyK P md ops Q S k fuel listed a w []:=fun _ h=>by cases h
theorem AllReadyK.cons {fuel:Nat}{listed:Array Bool}{a:Act}{w:World}{i:Nat}{o:Oper}{rs:List Nat}(ho:ops[i]?=some o)
 (h: ∀K':Act→World→Prop,Shut (∀a w,S w→(S w→wpAnyK P md ops Q S k fuel (listed.setIfInBounds i true) a w)→K' a w)→if Region.wanted o (yielded ops a.tmps)=true then Oper.wp P o a w K' Q else K' (a.put o.dst undef) w)
 (hs:AllReadyK P md ops Q S k fuel listed a w rs):AllReadyK P md ops Q S k fuel listed a w (i::rs):=fun j hj=>by
 rcases List.mem_cons.1 hj with rfl|hj
 ·exact wpOp_step ho (fun K' hK=>h K' (fun a w hS hW=>hK a w ⟨fun _=>hS,hW hS⟩))
 ·exact hs j hj
theorem wpAnyK_ready {rs:List Nat}{fuel:Nat}{listed:Array Bool}{a:Act}{w:World}(hr:Region.ready md ops listed=rs)(hne:rs≠ [])
 (h:AllReadyK P md ops Q S k fuel listed a w rs):wpAnyK P md ops Q S k (fuel+1) listed a w:=
 ⟨fun h0=>absurd (hr▸h0) hne,hr▸h⟩
theorem wpAnyK_done {listed:Array Bool}{a:Act}{w:World}(hr:Region.ready md ops listed= [])(h:Q .normal a w):
 ∀fuel,wpAnyK P md ops Q S k fuel listed a w
 |0=>⟨hr,h⟩
 |_+1=>⟨fun _=>h,by rw[hr];simp⟩
theorem wpAnyK_chain: ∀(is:List Nat) (fuel:Nat) (listed:Array Bool) (a:Act) (w:World),chain md ops listed is=true→listed.getD k false=true∨is.head?=some k→k<listed.size→is.length≤fuel→wpList P ops Q (is.filterMap fun i=>ops[i]?) a w→wpAnyK P md ops Q S k fuel listed a w
 | [],fuel,listed,a,w,hc,_,_,_,h=>by
  have hr:Region.ready md ops listed= []:=by simpa[chain] using hc
  exact wpAnyK_done hr (by simpa[wpList] using h) fuel
 |i::is,0,listed,a,w,_,_,_,hf,_=>absurd hf Z94
 |i::is,fuel+1,listed,a,w,hc,hk,hks,hf,h=>by
  simp only[chain,Bool.and_eq_true,beq_iff_eq] at hc
  obtain⟨⟨hr,hi⟩,hc2⟩:=hc
  obtain⟨o,ho⟩:=Option.isSome_iff_exists.1 hi
  have hk2:(listed.setIfInBounds i true).getD k false=true:=by
   rcases hk with hk|hk
   ·exact getD_set_self' hk
   ·have e:i=k:=by simpa using hk
    subst e
    simp[Array.getD,hks]
  refine⟨fun h0=>(by rw[hr] at h0;cases h0),fun j hj=> ?_⟩
  rw[hr] at hj
  obtain rfl:j=i:=by simpa using hj
  rw[List.filterMap_cons_some ho] at h
  exact wpOp_mono (fun a w h=>⟨fun e=>(by rw[hk2] at e;cases e),wpAnyK_chain is fuel _ a w hc2 (.inl hk2) (by simpa using hks) (by simpa using hf) h⟩) (wpOp_of_list ho h)
theorem wpAnyK_lasts (is:List Nat){fuel:Nat}{listed:Array Bool}{a:Act}{w:World}(hc:chain md ops listed (k::is)=true)(hks:Nat.ble (k+1) listed.size=true)(hf:Nat.ble (is.length+1) fuel=true)
 (h:wpList P ops Q ((k::is).filterMap fun i=>ops[i]?) a w):wpAnyK P md ops Q S k fuel listed a w:=
 wpAnyK_chain (k::is) fuel listed a w hc (.inr rfl) (Nat.le_of_ble_eq_true hks) (by simpa using Nat.le_of_ble_eq_true hf) h
theorem wp_region_K (S:World→Prop)(k:Nat){id:Nat}{a:Act}{w:World}(hm:P.follows .mixedOrders=true)(hS:S w.drew)
 (h:S w.drew→wpAnyK P .any ops Q S k ops.size (Array.replicate ops.size false) a w.drew):(Code.region id ops true).wp P Q a w:=
 wp_region_any hm (wpAny_of_K _ _ _ _ (h hS))
end
section
variable {P:Program} {ops:Array Oper} {Q:Exit→Act→World→Prop} {md:Region.Mode} {S:Array Bool→World→Prop}
def StepV (P:Program)(ops:Array Oper)(S T:World→Prop)(o:Oper)(v:Value)(a:Act):Prop:=
 (Region.wanted o (yielded ops a.tmps)=true∧ ∀w,S w→(execOp a.eval o).run P w= .ok (.value v) w∧T w)∨
 (Region.wanted o (yielded ops a.tmps)=false∧v=undef∧ ∀w,S w→T w)∨
 (Region.wanted o (yielded ops a.tmps)=true∧ ∃f args,(∀w,S w→(execOp a.eval o).run P w= .ok (.enter f args) w)∧ ∀w,S w→Calls P f args w fun e w'=>e= .returned v∧T w')∨
 (Region.wanted o (yielded ops a.tmps)=true∧ ∀w,S w→ ∃w',(execOp a.eval o).run P w= .ok (.value v) w'∧T w')
theorem StepV.of_same {S T:World→Prop}{o:Oper}{v:Value}{a a':Act}(hy:StepV P ops S T o v a)(he:execOp a'.eval o=execOp a.eval o)
 (hw:Region.wanted o (yielded ops a'.tmps)=Region.wanted o (yielded ops a.tmps)):StepV P ops S T o v a':=by
 unfold StepV at*
 rw[he,hw]
 exact hy
theorem StepV.wpOp {S T:World→Prop}{i:Nat}{o:Oper}{v:Value}{a:Act}(hi:ops[i]?=some o)(hy:StepV P ops S T o v a)
 {K:Act→World→Prop} {w:World} (hS:S w) (h: ∀w',T w'→K (a.put o.dst v) w'):wpOp P ops Q i K a w:=by
 unfold Go.wpOp
 simp only[hi]
 rcases hy with⟨hw,hv⟩|⟨hw,rfl,ht⟩|⟨hw,f,args,he,hc⟩|⟨hw,hv⟩
 ·simp only[hw,if_true,Oper.wp,(hv w hS).1,Oper.upon];exact .inl (h w (hv w hS).2)
 ·simp only[hw,Bool.false_eq_true,if_false];exact h w (ht w hS)
 ·exact Z111
 ·exact Z145
variable {S1 S2:World→Prop}
variable {S3:World→Prop}
theorem StepV.mono {S T S' T':World→Prop}{o:Oper}{v:Value}{a:Act}(hy:StepV P ops S T o v a)(hs: ∀w,S' w→S w)(ht: ∀w w',S' w'→T w→T' w):StepV P ops S' T' o v a:=by
 rcases hy with⟨hw,hv⟩|⟨hw,hv,h⟩|⟨hw,f,args,he,hc⟩|⟨hw,hv⟩
 ·exact .inl ⟨hw,fun w hS=>⟨(hv w (hs w hS)).1,ht w w hS (hv w (hs w hS)).2⟩⟩
 ·exact .inr (.inl ⟨hw,hv,fun w hS=>ht w w hS (h w (hs w hS))⟩)
 ·exact .inr (.inr (.inl ⟨hw,f,args,fun w hS=>he w (hs w hS),fun w hS=>(hc w (hs w hS)).mono fun e w' h=>⟨h.1,ht w' w hS h.2⟩⟩))
 ·refine .inr (.inr (.inr ⟨hw,fun w hS=> ?_⟩))
  obtain⟨w',h1,h2⟩:=hv w (hs w hS)
  exact⟨w',h1,ht w' w hS h2⟩
theorem getD_set_at {k:Nat}{L:Array Bool}(h:k<L.size):(L.setIfInBounds k true).getD k true=true:=by simp[h]
end
theorem Z136 {p:Prop}(h:p:=by
 rcases Nat.lt_or_ge e.on L.size with h'|h'
 ·simp[h'] at h2⊢;exact h2
 ·simp[Array.getElem?_eq_none h']):p:=h
theorem Z70 {p:Prop}(h:p:=by
 rcases Nat.lt_or_ge e.on ops.size with h'|h'
 ·exact waitsFar_listed h fuel e.on k h1 h' hc
 ·cases fuel with
  |zero=>simp[waitsFar] at hc
  |succ f=>unfold waitsFar at hc;rw[Array.getElem?_eq_none h'] at hc;cases hc):p:=h
theorem Z13 {p:Prop}(h:p:=by omega):p:=h
section
variable {P:Program} {ops:Array Oper} {Q:Exit→Act→World→Prop} {md:Region.Mode} {S:Array Bool→World→Prop}
def StepW (P:Program)(ops:Array Oper)(S T:World→Prop)(o:Oper)(v:Value)(a:Act):Prop:=
 StepV P ops S T o v a∨(Region.wanted o (yielded ops a.tmps)=true∧o.dst=none∧ ∀w,S w→ ∃w',(execOp a.eval o).run P w= .ok .skip w'∧T w')
theorem StepW.of_same {S T:World→Prop}{o:Oper}{v:Value}{a a':Act}(hy:StepW P ops S T o v a)(he:execOp a'.eval o=execOp a.eval o)
 (hw:Region.wanted o (yielded ops a'.tmps)=Region.wanted o (yielded ops a.tmps)):StepW P ops S T o v a':=by
 rcases hy with hy|hy
 ·exact .inl (hy.of_same he hw)
 ·unfold StepW;rw[he,hw];exact .inr hy
theorem StepW.wpOp {S T:World→Prop}{i:Nat}{o:Oper}{v:Value}{a:Act}(hi:ops[i]?=some o)(hy:StepW P ops S T o v a)
 {K:Act→World→Prop} {w:World} (hS:S w) (h: ∀w',T w'→K (a.put o.dst v) w'):wpOp P ops Q i K a w:=by
 rcases hy with hy|⟨hw,hd,hv⟩
 ·exact hy.wpOp hi hS h
 ·obtain⟨w',hr,hT⟩:=hv w hS
  unfold Go.wpOp
  simp only[hi,hw,if_true,Oper.wp,hr,Oper.upon]
  have h1:=h w' hT
  rw[hd] at h1⊢
  exact .inl h1
theorem StepW.mono {S T S' T':World→Prop}{o:Oper}{v:Value}{a:Act}(hy:StepW P ops S T o v a)(hs: ∀w,S' w→S w)(ht: ∀w w',S' w'→T w→T' w):StepW P ops S' T' o v a:=by
 rcases hy with hy|⟨hw,hd,hv⟩
 ·exact .inl (hy.mono hs ht)
 ·refine .inr ⟨hw,hd,fun w hS=> ?_⟩
  obtain⟨w',h1,h2⟩:=hv w (hs w hS)
  exact⟨w',h1,ht w' w hS h2⟩
def Shut (md:Region.Mode)(ops:Array Oper)(L:Array Bool):Prop:= ∀i o,ops[i]?=some o→L.getD i true=true→ ∀e∈o.after,Region.binds md e=true→L.getD e.on true=true
theorem Shut.ready {L:Array Bool}(h:Shut md ops L){i:Nat}(hi:i∈Region.ready md ops L):Shut md ops (L.setIfInBounds i true):=by
 intro j o ho hj e he hb
 have key:L.getD e.on true=true→(L.setIfInBounds i true).getD e.on true=true:=fun h1=>by
  by_cases hie:i=e.on
  ·rw[←hie]
   rcases Nat.lt_or_ge i L.size with hlt|hge
   ·simp[hlt]
   ·simp[Array.getElem?_eq_none hge]
  ·rw[getD_set_ne true hie];exact h1
 by_cases hij:i=j
 ·subst hij
  obtain⟨_,o',ho',hall⟩:=mem_ready.1 hi
  obtain rfl:o=o':=Option.some.inj (ho.symm.trans ho')
  have h2:=hall e he hb
  refine key ?_
  exact Z136
 ·rw[getD_set_ne true hij] at hj
  exact key (h j o ho hj e he hb)
def waitsFar (md:Region.Mode)(ops:Array Oper):Nat→Nat→Nat→Bool
 |0,_,_=>false
 |fuel+1,i,k=>match ops[i]? with|some o=>o.after.toList.any fun e=>Region.binds md e&&(e.on==k||waitsFar md ops fuel e.on k)|none=>false
theorem waitsFar_listed {L:Array Bool}(h:Shut md ops L): ∀(fuel i k:Nat),L.getD i true=true→i<ops.size→waitsFar md ops fuel i k=true→L.getD k true=true
 |0,_,_,_,_,hw=>by simp[waitsFar] at hw
 |fuel+1,i,k,hl,hi,hw=>by
  unfold waitsFar at hw
  rw[Array.getElem?_eq_getElem hi] at hw
  simp only[List.any_eq_true,Bool.and_eq_true,Bool.or_eq_true,beq_iff_eq] at hw
  obtain⟨e,he,hb,hc⟩:=hw
  have h1:=h i _ (Array.getElem?_eq_getElem hi) hl e (by simpa using he) hb
  rcases hc with rfl|hc
  ·exact h1
  ·exact Z70
theorem waitsFar_ready {L:Array Bool}(h:Shut md ops L){fuel i k:Nat}(hi:i∈Region.ready md ops L)(hw:waitsFar md ops fuel i k=true):L.getD k true=true:=by
 cases fuel with
 |zero=>simp[waitsFar] at hw
 |succ fuel=>
  obtain⟨_,o,ho,hall⟩:=mem_ready.1 hi
  unfold waitsFar at hw
  rw[ho] at hw
  simp only[List.any_eq_true,Bool.and_eq_true,Bool.or_eq_true,beq_iff_eq] at hw
  obtain⟨e,he,hb,hc⟩:=hw
  have h2:=hall e (by simpa using he) hb
  have h1:L.getD e.on true=true:=by
   exact Z136
  rcases hc with rfl|hc
  ·exact h1
  ·exact Z70
def wpW (P:Program)(md:Region.Mode)(ops:Array Oper)(Q:Exit→Act→World→Prop)(S:Array Bool→World→Prop):Nat→Array Bool→Act→Prop
 |0,listed,a=>Region.ready md ops listed= []∧ ∀w,S listed w→Q .normal a w
 |fuel+1,listed,a=>(Region.ready md ops listed= []→ ∀w,S listed w→Q .normal a w)∧
  ∀i∈Region.ready md ops listed,∃o v,ops[i]?=some o∧(∀L:Array Bool,L.size=listed.size→Shut md ops L→i∈Region.ready md ops L→StepW P ops (S L) (S (L.setIfInBounds i true)) o v a)∧wpW P md ops Q S fuel (listed.setIfInBounds i true) (a.put o.dst v)
theorem wpAny_of_W: ∀(fuel:Nat) (listed:Array Bool) (a:Act),Shut md ops listed→wpW P md ops Q S fuel listed a→ ∀w,S listed w→wpAny P md ops Q fuel listed a w
 |0,_,_,_,h,w,hS=>⟨h.1,h.2 w hS⟩
 |fuel+1,listed,a,hsh,h,w,hS=>by
  refine⟨fun h0=>h.1 h0 w hS,fun i hi=> ?_⟩
  obtain⟨o,v,ho,hy,hU⟩:=h.2 i hi
  exact(hy listed rfl hsh hi).wpOp ho hS fun w' hS'=>wpAny_of_W fuel _ _ (hsh.ready hi) hU w' hS'
theorem wpW_first {i:Nat}{oi:Oper}{v:Value}(hi:ops[i]?=some oi)(hsel: ∀(j:Nat) (o:Oper) cs b,ops[j]?=some o→o.op≠ .select cs b):
 ∀(fuel:Nat) (listed:Array Bool) (a:Act),
  (∀j oj,ops[j]?=some oj→j≠i→listed.getD j true=false→(∀e∈oj.after,Region.binds md e=true→e.on≠i)→oi.apart ops oj=true)→
  i∈Region.ready md ops listed→(∀L:Array Bool,L.size=listed.size→Shut md ops L→i∈Region.ready md ops L→StepW P ops (S L) (S (L.setIfInBounds i true)) oi v a)→
  wpW P md ops Q S fuel (listed.setIfInBounds i true) (a.put oi.dst v)→wpW P md ops Q S (fuel+1) listed a:=by
 intro fuel
 induction fuel with
 |zero=>
  intro listed a _ hr hy H
  refine⟨fun h=>Z91,fun j hj=> ?_⟩
  by_cases hji:j=i
  ·exact Z150
  ·exact Z105
 |succ fuel ih=>
  intro listed a hfree hr hy H
  refine⟨fun h=>Z91,fun j hj=> ?_⟩
  by_cases hji:j=i
  ·exact Z150
  ·have hj2:=ready_mono hj hji
   obtain⟨oj,u,hoj,hyj,Hj⟩:=H.2 j hj2
   obtain⟨hjun,oj',hoj',hallj⟩:=mem_ready.1 hj
   obtain rfl:oj=oj':=Option.some.inj (hoj.symm.trans hoj')
   have hnot: ∀e∈oj.after,Region.binds md e=true→e.on≠i:=fun e he hb heq=>by
    exact Z73
   obtain⟨h1,h2,h3⟩:=Oper.apart_spec (hfree j oj hoj hji hjun hnot)
   have hsi:=fun cs b=>hsel i oi cs b hi
   have hsj:=fun cs b=>hsel j oj cs b hoj
   have hyj': ∀L:Array Bool,L.size=listed.size→Shut md ops L→j∈Region.ready md ops L→StepW P ops (S L) (S (L.setIfInBounds j true)) oj u a:=fun L hsz hsh hL=>(hyj L (by rw[hsz,Array.size_setIfInBounds]) hsh hL).of_same (execOp_put oj hsj a oi.dst v h1).symm (wanted_put oj a oi.dst v h1).symm
   have hyi': ∀L:Array Bool,L.size=(listed.setIfInBounds j true).size→Shut md ops L→i∈Region.ready md ops L→StepW P ops (S L) (S (L.setIfInBounds i true)) oi v (a.put oj.dst u):=fun L hsz hsh hL=>(hy L (by rw[hsz,Array.size_setIfInBounds]) hsh hL).of_same (execOp_put oi hsi a oj.dst u h3) (wanted_put oi a oj.dst u h3)
   exact Z50
def flagL (ks:List Nat)(T:Nat→World→Prop)(L:Array Bool)(w:World):Prop:=
 ∃n,n≤ks.length∧(∀i k,ks[i]?=some k→(i<n→L.getD k true=true)∧(n≤i→L.getD k true=false))∧T n w
variable {ks:List Nat} {T:Nat→World→Prop}
theorem wpW_take {i:Nat}{oi:Oper}{v:Value}{fuel:Nat}{listed:Array Bool}{a:Act}(hi:ops[i]?=some oi)
 (hs:Region.noSelect ops=true) (hf:Region.free md ops listed i=true) (hr:(Region.ready md ops listed).contains i=true) (hk:ks.contains i=false)
 (hy:(Region.wanted oi (yielded ops a.tmps)=true∧ ∀n w,n≤ks.length→T n w→(execOp a.eval oi).run P w= .ok (.value v) w)∨(Region.wanted oi (yielded ops a.tmps)=false∧v=undef))
 (h:wpW P md ops Q (flagL ks T) fuel (listed.setIfInBounds i true) (a.put oi.dst v)):wpW P md ops Q (flagL ks T) (fuel+1) listed a:=by
 refine wpW_first hi (Region.noSelect_spec hs) fuel listed a (Region.free_spec hi hf) (by simpa using hr) (fun L hL hsh hLi=> ?_) h
 have hin: ∀w,flagL ks T L w→flagL ks T (L.setIfInBounds i true) w:=fun w ⟨n,hn,h1,h2⟩=>⟨n,hn,fun j k hj=>by
  have hne:i≠k:=fun e=>by subst e;have:=List.mem_of_getElem? hj;simp[this] at hk
  rw[getD_set_ne true hne];exact h1 j k hj,h2⟩
 rcases hy with⟨hw,hq⟩|⟨hw,hv⟩
 ·exact .inl (.inl ⟨hw,fun w hS=>⟨by obtain⟨n,hn,_,h2⟩:=hS;exact hq n w hn h2,hin w hS⟩⟩)
 ·exact .inl (.inr (.inl ⟨hw,hv,hin⟩))
theorem wpW_turn {k:Nat}(m:Nat){oi:Oper}{v:Value}{fuel:Nat}{listed:Array Bool}{a:Act}(hkm:ks[m]?=some k)(hi:ops[k]?=some oi)(hks:decide (k<listed.size)=true)(hnd:decide ks.Nodup=true)
 (hwt:(List.range m).all (fun j=>match ks[j]? with|some k'=>waitsFar md ops 40 k k'|none=>false)=true)
 (hs:Region.noSelect ops=true) (hf:Region.free md ops listed k=true) (hr:(Region.ready md ops listed).contains k=true)
 (hy:StepW P ops (T m) (T (m+1)) oi v a)
 (h:wpW P md ops Q (flagL ks T) fuel (listed.setIfInBounds k true) (a.put oi.dst v)):wpW P md ops Q (flagL ks T) (fuel+1) listed a:=by
 refine wpW_first hi (Region.noSelect_spec hs) fuel listed a (Region.free_spec hi hf) (by simpa using hr) (fun L hL hsh hLi=> ?_) h
 have hks':k<L.size:=by rw[hL];simpa using hks
 have h0:=(mem_ready.1 hLi).1
 have hnd':ks.Nodup:=by simpa using hnd
 have hm:m<ks.length:=(List.getElem?_eq_some_iff.1 hkm).1
 have hwt': ∀j k',j<m→ks[j]?=some k'→L.getD k' true=true:=fun j k' hj hjk=>by
  have:=List.all_eq_true.1 hwt j (by simpa using hj)
  rw[hjk] at this
  exact waitsFar_ready hsh hLi this
 have hn: ∀n,(∀i k,ks[i]?=some k→(i<n→L.getD k true=true)∧(n≤i→L.getD k true=false))→n≤ks.length→n=m:=fun n h1 hnl=>by
  rcases Nat.lt_trichotomy n m with h'|h'|h'
  ·have hnk:ks[n]?=some ks[n]:=List.getElem?_eq_getElem Z13
   have e1:=(h1 n _ hnk).2 (Nat.le_refl _)
   have e2:=hwt' n _ h' hnk
   rw[e1] at e2;cases e2
  ·exact h'
  ·have e1:=(h1 m k hkm).1 h'
   rw[h0] at e1;cases e1
 refine hy.mono (fun w hS=> ?_) (fun w w' hS ht=> ?_)
 ·obtain⟨n,hnl,h1,h2⟩:=hS
  rw[hn n h1 hnl] at h2
  exact h2
 ·obtain⟨n,hnl,h1,_⟩:=hS
  obtain rfl:=hn n h1 hnl
  refine⟨n+1,hm,fun i k' hik=> ?_,ht⟩
  by_cases hin:i=n
  ·subst hin
   obtain rfl:k'=k:=Option.some.inj (hik.symm.trans hkm)
   exact⟨fun _=>getD_set_at hks',fun h'=>Z13⟩
  ·have hne:k≠k':=fun e=>by
    subst e
    have hi':=List.getElem?_eq_some_iff.1 hik
    have hm':=List.getElem?_eq_some_iff.1 hkm
    exact hin ((List.getElem_inj hnd').1 (hi'.2.trans hm'.2.symm))
   rw[getD_set_ne true hne]
   exact⟨fun h'=>(h1 i k' hik).1 Z13,fun h'=>(h1 i k' hik).2 Z13⟩
theorem wpW_done {listed:Array Bool}{a:Act}(hr:Region.ready md ops listed= [])(hall:ks.all (fun k=>listed.getD k true)=true)(h: ∀w,T ks.length w→Q .normal a w): ∀fuel,wpW P md ops Q (flagL ks T) fuel listed a:=by
 have key: ∀w,flagL ks T listed w→Q .normal a w:=fun w ⟨n,hn,h1,h2⟩=>by
  rcases Nat.lt_or_ge n ks.length with h'|h'
  ·have hnk:ks[n]?=some ks[n]:=List.getElem?_eq_getElem h'
   have e1:=(h1 n _ hnk).2 (Nat.le_refl _)
   have e2:=List.all_eq_true.1 hall ks[n] (List.getElem_mem h')
   rw[e1] at e2;cases e2
  ·obtain rfl:n=ks.length:=by omega
   exact h w h2
 intro fuel
 cases fuel with
 |zero=>exact⟨hr,key⟩
 |succ fuel=>exact⟨fun _=>key,fun i hi=>by rw[hr] at hi;cases hi⟩
theorem wp_region_W {id:Nat}{a:Act}{w:World}(ks:List Nat)(T:Nat→World→Prop)(hm:P.follows .mixedOrders=true)(hk:ks.all (fun k=>decide (k<ops.size))=true)(hS:T 0 w.drew)(h:wpW P .any ops Q (flagL ks T) ops.size (Array.replicate ops.size false) a):(Code.region id ops true).wp P Q a w:=by
 have hun: ∀i:Nat,i<ops.size→(Array.replicate ops.size false).getD i true=false:=fun i hi=>by simp[hi]
 refine wp_region_any hm (wpAny_of_W _ _ _ (fun i o ho hl=> ?_) h _ ⟨0,Nat.zero_le _,fun i k hik=>⟨fun h'=>Z13,fun _=> ?_⟩,hS⟩)
 ·have hi:=(Array.getElem?_eq_some_iff.1 ho).1
  rw[hun i hi] at hl;cases hl
 ·exact hun k (by simpa using List.all_eq_true.1 hk k (List.mem_of_getElem? hik))
end
theorem ap:(∀(a:Act) (d:Tmp) (v:Value),a.put (some d) v= {a with tmps:=a.tmps.setIfInBounds d v})∧(∀(a:Act) (v:Value),a.put none v=a)∧(∀ {α:Type} (l:List α) (i:Nat) (x:α),l.toArray.setIfInBounds i x=(l.set i x).toArray)∧(∀ {α:Type} (a:α) (l:List α) (x:α),(a::l).set 0 x=x::l)∧(∀ {α:Type} (a:α) (l:List α) (i:Nat) (x:α),(a::l).set (i+1) x=a::l.set i x):=
 ⟨fun _ _ _=>rfl,fun _ _=>rfl,fun _ _ _=>List.setIfInBounds_toArray ..,fun _ _ _=>rfl,fun _ _ _ _=>rfl⟩
section
variable {P:Program} {ops:Array Oper} {Q:Exit→Act→World→Prop} {md:Region.Mode} {S:World→Prop} {k:Nat} {oi:Oper} {v:Value} {fuel:Nat} {listed:Array Bool} {a:Act} {w:World}
theorem tkK (i:Nat)(h:wpAnyK P md ops Q S k fuel (listed.setIfInBounds i true) (a.put oi.dst v) w)
 (hi:ops[i]?=some oi:=by(simp only[List.getElem?_toArray,List.getElem?_cons_succ,List.getElem?_cons_zero];rfl))
 (hs:Region.noSelect ops=true:=by kernel_rfl) (hf:Region.free md ops listed i=true:=by kernel_rfl) (hr:(Region.ready md ops listed).contains i=true:=by kernel_rfl) (hwt:(waitsT md ops 12 k i&&closedB md ops listed&& !(listed.getD k false)&&(k !=i))=true:=by kernel_rfl)
 (hQ: ∀c a w,Q (.panic c) (a.put oi.dst v) w→Q (.panic c) a w:=by exact fun _ _ _ h=>h) (y:YieldsIf P ops S oi v a) (hS:S w:=by assumption):wpAnyK P md ops Q S k (fuel+1) listed a w:=
 wpAnyK_take hi hs hf hr hwt hQ y hS h
theorem tkP (i:Nat)(h:wpAnyK P md ops Q S k fuel (listed.setIfInBounds i true) (a.put oi.dst v) w)
 (hi:ops[i]?=some oi:=by(simp only[List.getElem?_toArray,List.getElem?_cons_succ,List.getElem?_cons_zero];rfl))
 (hs:Region.noSelect ops=true:=by kernel_rfl) (hf:Region.free md ops listed i=true:=by kernel_rfl) (hr:(Region.ready md ops listed).contains i=true:=by kernel_rfl) (hki:(k !=i)=true:=by kernel_rfl)
 (hQ: ∀c a w,Q (.panic c) (a.put oi.dst v) w→Q (.panic c) a w:=by exact fun _ _ _ h=>h) (y:YieldsIf P ops (fun _=>True) oi v a) (hS:S w:=by assumption):wpAnyK P md ops Q S k (fuel+1) listed a w:=
 wpAnyK_takeP hi hs hf hr hki hQ y hS h
theorem tkH (i:Nat)(h:wpAnyH P md ops Q S fuel (listed.setIfInBounds i true) (a.put oi.dst v) w)
 (hi:ops[i]?=some oi:=by(simp only[List.getElem?_toArray,List.getElem?_cons_succ,List.getElem?_cons_zero];rfl))
 (hs:Region.noSelect ops=true:=by kernel_rfl) (hf:Region.free md ops listed i=true:=by kernel_rfl) (hr:(Region.ready md ops listed).contains i=true:=by kernel_rfl)
 (hQ: ∀c a w,Q (.panic c) (a.put oi.dst v) w→Q (.panic c) a w:=by exact fun _ _ _ h=>h) (y:YieldsIf P ops S oi v a) (hS:S w:=by assumption):wpAnyH P md ops Q S (fuel+1) listed a w:=
 wpAnyH_take hi hs hf hr hQ y hS h
theorem tkU (i:Nat)(h:wpU P md ops Q S fuel (listed.setIfInBounds i true) (a.put oi.dst v))
 (hi:ops[i]?=some oi:=by(simp only[List.getElem?_toArray,List.getElem?_cons_succ,List.getElem?_cons_zero];rfl))
 (hs:Region.noSelect ops=true:=by kernel_rfl) (hf:Region.free md ops listed i=true:=by kernel_rfl) (hr:(Region.ready md ops listed).contains i=true:=by kernel_rfl) (y:StepU P ops S oi v a):wpU P md ops Q S (fuel+1) listed a:=
 wpU_take hi hs hf hr y h
theorem tkW {ks:List Nat}{T:Nat→World→Prop}(i:Nat)(h:wpW P md ops Q (flagL ks T) fuel (listed.setIfInBounds i true) (a.put oi.dst v))
 (hi:ops[i]?=some oi:=by(simp only[List.getElem?_toArray,List.getElem?_cons_succ,List.getElem?_cons_zero];rfl))
 (hs:Region.noSelect ops=true:=by kernel_rfl) (hf:Region.free md ops listed i=true:=by kernel_rfl) (hr:(Region.ready md ops listed).contains i=true:=by kernel_rfl) (hk:ks.contains i=false:=by rfl)
 (y:(Region.wanted oi (yielded ops a.tmps)=true∧ ∀n w,n≤ks.length→T n w→(execOp a.eval oi).run P w= .ok (.value v) w)∨(Region.wanted oi (yielded ops a.tmps)=false∧v=undef)):wpW P md ops Q (flagL ks T) (fuel+1) listed a:=
 wpW_take hi hs hf hr hk y h
end
open Go.RowKit
section
variable {P:Program}
theorem map_add_zero (a:Option Addr):a.map (fun x=>x.add 0)=a:=by
 cases a with
 |none=>rfl
 |some a=>simp[Addr.add]
theorem sl_front (w:World)(t:TypeId)(a:Option Addr)(n cap k:Nat)(kd:IntKind)(ht:P.underlying t=some (.slice (P.elem t))){s:Nat}(hs:(sizeOf (P.elem t)).run P w= .ok s w)(h:k≤cap):
 (Instr.slice t (.slice a n cap) none (some (.int kd (k:Int))) none).run P w= .ok (.slice a k cap) w:=by
 rw[run_slice_h w t a n cap ht kd k Z11 Z11,hs]
 simp only[Result.andThen,sliced,Nat.zero_mul,map_add_zero,ite_self,Int.toNat_natCast,Nat.sub_zero]
theorem sl_back (w:World)(t:TypeId)(a:Option Addr)(n cap k:Nat)(kd:IntKind)(ht:P.underlying t=some (.slice (P.elem t))){s:Nat}(hs:(sizeOf (P.elem t)).run P w= .ok s w)(h:k≤n):
 (Instr.slice t (.slice a n cap) (some (.int kd (k:Int))) none none).run P w= .ok (.slice (if cap=k then a else a.map (·.add (k*s))) (n-k) (cap-k)) w:=by
 rw[run_slice_l w t a n cap ht kd k Z11 Z11,hs]
 simp only[Result.andThen,sliced,Int.toNat_natCast]
end
theorem Rd.front {W:World}{a:Option Addr}{n cap sz:Nat}{cs:List Value}(h:Rd W sz (.slice a n cap) n cs)(k:Nat)(hk:k≤n):Rd W sz (.slice a k cap) k (cs.take (k*sz)):=by
 have hl:(cs.take (k*sz)).length=k*sz:=by rw[List.length_take,h.1];exact Nat.min_eq_left (Nat.mul_le_mul_right _ hk)
 refine⟨hl,?_⟩
 rcases h.2 with⟨⟨a',c',e⟩,h0⟩|⟨b,off,c',e,hle,hc⟩
 ·exact .inl ⟨⟨_,_,by rw[show k=0 from Z11]⟩,Z11⟩
 ·cases e
  refine .inr ⟨b,off,cap,rfl,Z11,fun j u hj=>hc j u ?_⟩
  have hlt:j<k*sz:=by
   have:=(List.getElem?_eq_some_iff.1 hj).1
   rw[hl] at this;exact this
  rw[List.getElem?_take_of_lt hlt] at hj
  exact hj
theorem Rd.back {W:World}{a:Option Addr}{n cap sz:Nat}{cs:List Value}(h:Rd W sz (.slice a n cap) n cs)(k:Nat)(hk:k≤n):Rd W sz (.slice (if cap=k then a else a.map (·.add (k*sz))) (n-k) (cap-k)) (n-k) (cs.drop (k*sz)):=by
 refine⟨by rw[List.length_drop,h.1,Nat.sub_mul],?_⟩
 by_cases h0:n-k=0
 ·exact .inl ⟨⟨_,_,by rw[h0]⟩,h0⟩
 rcases h.2 with⟨_,h1⟩|⟨b,off,c',e,hle,hc⟩
 ·omega
 ·cases e
  rw[if_neg Z11]
  refine .inr ⟨b,off+k*sz,cap-k,?_,Z11,fun j u hj=> ?_⟩
  ·simp only[Option.map_some]
   rw[Addr.add_lit]
  ·rw[List.getElem?_drop] at hj
   rw[Nat.add_assoc]
   exact hc _ u hj
end Go.Proofs.YtdmjegelcdghlaaGreat
