/-
  Chapter 22: the laws' group in memory.
-/
import Derived.Test.YtdmjegelcdghlaaGreatGKh
import Derived.Test.YtdmjegelcdghlaaGreatGKj
import Derived.Test.YtdmjegelcdghlaaGreatGIh
set_option maxRecDepth 100000
set_option maxHeartbeats 64000000
set_option linter.unusedVariables false
set_option linter.unusedSimpArgs false
namespace Go.Proofs.YtdmjegelcdghlaaGreat
theorem Z110 {p:Prop}(h:p:=by
 rcases hl with hl|hl
 ·exact absurd hl (fun e=>e)
 ·unfold Gl;omega):p:=h
end Go.Proofs.YtdmjegelcdghlaaGreat
namespace Go.Proofs.YtdmjegelcdghlaaGreat.Vw
open Go.RowKit Go.Maps
def ptE:Ek Nat:=⟨1,27,fun a _=> [.pointer (some ⟨a,0,none⟩)],fun _ _ _ _=>True,fun _=>False⟩
theorem ptE_ok:ptE.Ok:=⟨Z37,fun _ _=>rfl,fun c W a u _ x hx=>by
 have:x= .pointer (some ⟨a,0,none⟩):=by simpa[ptE] using hx
 subst this;rfl,fun _ _ _ _ _ _ _ _ _=>trivial⟩
def ktE (li:Nat):Ek (Kt Op):=⟨5,47,fun k u=> [.int .i64 (k.vw:Int),.int .i64 (k.nr:Int),.int .i64 (k.bs:Int),.int .i64 (k.cm:Int),u],fun c W u k=>SlR (opE li) c li W u k.ops∧k.ops.length≤1048576,fun k=>k=li⟩
theorem ktE_ok (li:Nat):(ktE li).Ok:=by
 refine⟨by show 0<5;decide,fun _ _=>rfl,fun c W a u h x hx=> ?_,fun c c' W W' u a h hc hb=>⟨h.1.keep (opE_ok li) hc fun k hk hl=>hb k hk Z71,h.2⟩⟩
 obtain⟨ua,uc,e⟩:=h.1.slice
 subst e
 simp only[ktE,List.mem_cons,List.not_mem_nil,or_false] at hx
 rcases hx with rfl|rfl|rfl|rfl|rfl<;>rfl
structure Sl3 where
 a:Option Addr
 n:Nat
 q:Nat
def Sl3.v (s:Sl3):Value:= .slice s.a s.n s.q
def slE:Ek Sl3:=⟨1,42,fun s _=> [s.v],fun _ _ _ _=>True,fun _=>False⟩
theorem slE_ok:slE.Ok:=⟨Z37,fun _ _=>rfl,fun c W a u _ x hx=>by
 have:x=a.v:=by simpa[slE] using hx
 subst this;rfl,fun _ _ _ _ _ _ _ _ _=>trivial⟩
structure GP (c:Lb)(W:World)(ps:Nat→Nat)(g:Gp Op)(rv kv sv wv tv ov:Value)(ss:Nat→Sl3):Prop where
 r:Row ptE c 201 W rv ((List.range g.n).map ps)
 k:Row (ktE 1) c 202 W kv ((List.range g.n).map g.kept)
 s:Row slE c 203 W sv ((List.range g.n).map ss)
 w:Row (sdE 3) c 204 W wv g.way
 t:Row ntE c 205 W tv ((List.range g.n).map g.told)
 o:Row (opE 1) c 206 W ov g.order
 sv: ∀i,i<g.n→Row (svE 2) c (210+i) W (ss i).v (g.saves i)
 rp: ∀i,i<g.n→RV i c W (ps i) (g.r i)
structure GV (c:Lb)(W:World)(gp:Nat)(g:Gp Op):Prop where
 lb:c gp=200
 ex: ∃ps rv kv sv wv tv ov ss,Blk W gp 69 [rv,kv,sv,wv,tv,ov]∧GP c W ps g rv kv sv wv tv ov ss
def Gl (k:Nat):Prop:=(1≤k∧k≤3)∨(10≤k∧k<90)∨(200≤k∧k<220)
theorem GP.keep {c c':Lb}{W W':World}{ps:Nat→Nat}{g:Gp Op}{rv kv sv wv tv ov:Value}{ss:Nat→Sl3}(h:GP c W ps g rv kv sv wv tv ov ss)(hn:g.n≤7)(hc:Lx W c c')(hb: ∀k,k<W.heap.size→Gl (c k)→W'.heap[k]?=W.heap[k]?):GP c' W' ps g rv kv sv wv tv ov ss:=by
 refine⟨h.r.keep ptE_ok hc fun k hk hl=>hb k hk ?_,h.k.keep (ktE_ok 1) hc fun k hk hl=>hb k hk ?_,h.s.keep slE_ok hc fun k hk hl=>hb k hk ?_,h.w.keep (sdE_ok 3) hc fun k hk hl=>hb k hk ?_,h.t.keep ntE_ok hc fun k hk hl=>hb k hk ?_,h.o.keep (opE_ok 1) hc fun k hk hl=>hb k hk ?_,fun i hi=>(h.sv i hi).keep (svE_ok 2) hc fun k hk hl=>hb k hk ?_,fun i hi=>(h.rp i hi).keep hc fun k hk hl=>hb k hk ?_⟩
 ·exact Z110
 ·rcases hl with hl|hl
  ·have:c k=1:=hl
   unfold Gl;omega
  ·unfold Gl;omega
 ·exact Z110
 ·rcases hl with hl|hl
  ·have:c k=3:=hl
   unfold Gl;omega
  ·unfold Gl;omega
 ·exact Z110
 ·rcases hl with hl|hl
  ·have:c k=1:=hl
   unfold Gl;omega
  ·unfold Gl;omega
 ·rcases hl with hl|hl
  ·have:c k=2:=hl
   unfold Gl;omega
  ·unfold Gl;omega
 ·unfold Gl;omega
theorem GV.keep {c c':Lb}{W W':World}{gp:Nat}{g:Gp Op}(h:GV c W gp g)(hn:g.n≤7)(hc:Lx W c c')(hb: ∀k,k<W.heap.size→Gl (c k)→W'.heap[k]?=W.heap[k]?):GV c' W' gp g:=by
 obtain⟨h1,ps,rv,kv,sv,wv,tv,ov,ss,h2,h3⟩:=h
 exact⟨(hc gp h2.lt).trans h1,ps,rv,kv,sv,wv,tv,ov,ss,(hb gp h2.lt (by rw[h1];unfold Gl;omega)).trans h2,h3.keep hn hc hb⟩
end Go.Proofs.YtdmjegelcdghlaaGreat.Vw
