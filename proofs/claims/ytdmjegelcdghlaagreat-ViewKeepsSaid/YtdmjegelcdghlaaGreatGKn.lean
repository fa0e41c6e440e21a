/-
  Chapter 22: how many replicas; whether an event is too great.
-/
import Derived.Test.YtdmjegelcdghlaaGreatGKk
import Derived.Test.YtdmjegelcdghlaaGreatGKa
import Derived.Test.YtdmjegelcdghlaaGreatGDd
set_option maxRecDepth 100000
set_option maxHeartbeats 64000000
set_option linter.unusedVariables false
set_option linter.unusedSimpArgs false
namespace Go.Proofs.YtdmjegelcdghlaaGreat.Vw
open Go.RowKit Go.Maps
theorem size_lem (n:Int): ∃m:Nat,m<5∧wrap64 (1+wrap64 ((IntKind.u64.wrap n).tmod 5))=((m+1:Nat):Int):=by
 have h0:0≤IntKind.u64.wrap n:=by
  have:IntKind.u64.wrap n=n % 18446744073709551616:=by simp[IntKind.wrap,IntKind.bits,IntKind.signed]
  rw[this]
  exact Int.emod_nonneg _ Z37
 have e:(IntKind.u64.wrap n).tmod 5=IntKind.u64.wrap n % 5:=Int.tmod_eq_emod_of_nonneg h0
 have h1:0≤IntKind.u64.wrap n % 5:=Int.emod_nonneg _ Z37
 have h2:IntKind.u64.wrap n % 5<5:=Int.emod_lt_of_pos _ Z37
 rw[e]
 refine⟨(IntKind.u64.wrap n % 5).toNat,Z11,?_⟩
 rw[IntWalk.wrap64_in (IntKind.u64.wrap n % 5) Z11,IntWalk.wrap64_in _ Z11]
 omega
theorem size_any (n:Int)(w:World):Calls Tryz.prog 24 #[.int .i64 n] w fun e w'=> ∃m:Nat,1≤m∧m≤5∧e= .returned (.int .i64 (m:Int))∧w'=w:=by
 obtain⟨m,hm,he⟩:=size_lem n
 have HE:=Lib.hid he
 clear he
 go_enter Tryz.func24,Tryz.ntmps24
 go_wp2_with fail
 go_ret
 refine⟨m+1,Z11,Z11,?_,rfl⟩
 show Ending.returned (.int .i64 (wrap64 (1+wrap64 ((IntKind.u64.wrap n).tmod 5))))=_
 rw[HE.out]
def wordsN (l:List Op)(j:Nat):Nat:=((l.take j).map fun o=>o.c.sco.length).sum
theorem wordsN_succ {l:List Op}{j:Nat}{o:Op}(h:l[j]?=some o):wordsN l (j+1)=wordsN l j+o.c.sco.length:=by
 unfold wordsN
 rw[List.take_add_one,h,List.map_append,List.sum_append]
 simp
structure TxW (li:Nat)(c:Lb)(W:World)(u:Value)(o:Op):Prop where
 rd:RdS W u o.c.sco
 lb:0<o.c.sco.length→LbO c li u
 sz:o.c.sco.length≤8796093022208
def opW (li:Nat):Ek Op:=⟨16,26,opC,fun c W u o=>TxW li c W u o,fun k=>k=li⟩
theorem opW_ok (li:Nat):(opW li).Ok:=by
 refine⟨by show 0<16;decide,fun a u=>rfl,fun c W u o h x hx=> ?_,fun c c' W W' u o h hc hb=> ?_⟩
 ·have hu:=slc_one (TxW.rd h).1
  exact Z59
 ·have h2:TxW li c W u o:=h
  refine⟨⟨rd_keepL h2.rd.1 Z37 fun h0 g hg hlt=>hb g hlt (h2.lb h0 g hg),h2.rd.2⟩,fun h0 g hg=> ?_,h2.sz⟩
  rw[hc g (rd_lt h2.rd.1 Z37 h0 g hg)]
  exact h2.lb h0 g hg
theorem SlR.atW {li lo:Nat}{c:Lb}{w:World}{v:Value}{l:List Op}(h:SlR (opW li) c lo w v l){k:Nat}{o:Op}(hk:l[k]?=some o):
 ∃b off cap ua uc,v= .slice (some ⟨b,off,none⟩) l.length cap∧RdS w (.slice ua o.c.sco.length uc) o.c.sco∧o.c.sco.length≤8796093022208∧ ∀W,Below w.heap.size w W→ ∀(q:Nat) x,(opC o (.slice ua o.c.sco.length uc))[q]?=some x→W.cell? ⟨b,off+k*16+q,none⟩=some x:=by
 obtain⟨b,off,cap,u,hv,hin,hc⟩:=h.get (opW_ok li) hk
 have hin':TxW li c w u o:=hin
 obtain⟨ua,uc,e⟩:=hin'.rd.1.slice
 subst e
 refine⟨b,off,cap,ua,uc,hv,hin'.rd,hin'.sz,fun W hb q x hx=> ?_⟩
 have h1:=hc q x hx
 have h2:=World.block_lt_of_cell? w _ h1
 have h3:=hb.block _ h2
 simp only[World.cell?,h3] at h1⊢
 exact h1
theorem words_zero (l:List Op):wordsN l 0≤0*8796093022208:=by rw[Nat.zero_mul];exact Nat.le_refl _
theorem gr_wrap (a ws k s q:Nat)(hq:q=a+ws)(hw:ws≤k*8796093022208)(hk:k≤41)(ha:a≤4611686018427387904)(hs:s≤8796093022208):IntKind.i64.wrap ((q:Int)+(s:Int))=((q+s:Nat):Int):=by
 exact Z197
theorem gr_next (a ws k s q:Nat)(hq:q=a+ws)(hw:ws≤k*8796093022208)(hs:s≤8796093022208):q+s=a+(ws+s)∧ws+s≤(k+1)*8796093022208:=by omega
def greatE (o:Op)(l:List Op):Bool:=decide (40<l.length)||decide (200<o.c.sco.length+wordsN l (min l.length 41))
theorem great_any {li lo:Nat}{c:Lb}(ek ew ep:Int)(o:Op)(oa:Option Addr)(oc:Nat)(m:Mz)(mv:Value)(w:World)(hm:SlR (opW li) c lo w mv m.ops)(ho:o.c.sco.length≤4611686018427387904)(hl:m.ops.length≤4611686018427387904):
 Calls Tryz.prog 25 #[.agg #[.int .i64 ek,.int .i64 ew,.int .i64 ep,.int .i64 o.ed,.int .i64 o.sq,.int .i64 o.lo,.int .i64 o.c.kd,.string ⟨o.c.fam.toArray⟩,.int .i64 o.c.ser,.int .i64 o.c.tok,.string ⟨o.c.cli.toArray⟩,.string ⟨o.c.usr.toArray⟩,.slice oa o.c.sco.length oc,.string ⟨o.c.red.toArray⟩,.string ⟨o.c.cha.toArray⟩,.string ⟨o.c.met.toArray⟩,.string ⟨o.c.ver.toArray⟩,.bool o.c.rf,.int .i64 o.c.edg,.int .i64 m.kd,.int .i64 m.fr,.int .i64 m.vw,.int .i64 m.nr,.int .i64 m.ao,mv,.int .i64 m.cm,.int .i64 m.sb,.int .i64 m.ls]] w fun e w'=>e= .returned (.bool (greatE o m.ops))∧Below w.heap.size w w':=by
 obtain⟨ma,mc,rfl⟩:=hm.slice
 have HM:=Lib.hid hm
 have HN:=Lib.hid (And.intro ho hl)
 clear hm ho hl
 go_enter Tryz.func25,Tryz.ntmps25
 go_upto_region 1 with fail
 obtain⟨w1,hw1⟩: ∃w1,w1=w.alloc (.cells #[.int .i64 ek,.int .i64 ew,.int .i64 ep,.int .i64 o.ed,.int .i64 o.sq,.int .i64 o.lo,.int .i64 o.c.kd,.string ⟨o.c.fam.toArray⟩,.int .i64 o.c.ser,.int .i64 o.c.tok,.string ⟨o.c.cli.toArray⟩,.string ⟨o.c.usr.toArray⟩,.slice oa o.c.sco.length oc,.string ⟨o.c.red.toArray⟩,.string ⟨o.c.cha.toArray⟩,.string ⟨o.c.met.toArray⟩,.string ⟨o.c.ver.toArray⟩,.bool o.c.rf,.int .i64 o.c.edg,.int .i64 m.kd,.int .i64 m.fr,.int .i64 m.vw,.int .i64 m.nr,.int .i64 m.ao,.slice ma m.ops.length mc,.int .i64 m.cm,.int .i64 m.sb,.int .i64 m.ls] 62):=⟨_,rfl⟩
 obtain⟨b1,hb1⟩: ∃b1,b1=w.heap.size:=⟨_,rfl⟩
 have HB1:Hid (Below w.heap.size w w1):=Lib.hid Z41
 have HM1:Hid (Blk w1 b1 62 [.int .i64 ek,.int .i64 ew,.int .i64 ep,.int .i64 o.ed,.int .i64 o.sq,.int .i64 o.lo,.int .i64 o.c.kd,.string ⟨o.c.fam.toArray⟩,.int .i64 o.c.ser,.int .i64 o.c.tok,.string ⟨o.c.cli.toArray⟩,.string ⟨o.c.usr.toArray⟩,.slice oa o.c.sco.length oc,.string ⟨o.c.red.toArray⟩,.string ⟨o.c.cha.toArray⟩,.string ⟨o.c.met.toArray⟩,.string ⟨o.c.ver.toArray⟩,.bool o.c.rf,.int .i64 o.c.edg,.int .i64 m.kd,.int .i64 m.fr,.int .i64 m.vw,.int .i64 m.nr,.int .i64 m.ao,.slice ma m.ops.length mc,.int .i64 m.cm,.int .i64 m.sb,.int .i64 m.ls]):=Lib.hid (by rw[hw1,hb1];exact Blk.new w 62 _)
 rw[←hw1,←hb1]
 clear hw1 hb1
 generalize Value.agg #[.int .i64 ek,.int .i64 ew,.int .i64 ep,.int .i64 o.ed,.int .i64 o.sq,.int .i64 o.lo,.int .i64 o.c.kd,.string ⟨o.c.fam.toArray⟩,.int .i64 o.c.ser,.int .i64 o.c.tok,.string ⟨o.c.cli.toArray⟩,.string ⟨o.c.usr.toArray⟩,.slice oa o.c.sco.length oc,.string ⟨o.c.red.toArray⟩,.string ⟨o.c.cha.toArray⟩,.string ⟨o.c.met.toArray⟩,.string ⟨o.c.ver.toArray⟩,.bool o.c.rf,.int .i64 o.c.edg,.int .i64 m.kd,.int .i64 m.fr,.int .i64 m.vw,.int .i64 m.nr,.int .i64 m.ao,.slice ma m.ops.length mc,.int .i64 m.cm,.int .i64 m.sb,.int .i64 m.ls]=ev0
 have z12:=HM1.out.cell 12 rfl
 have z24:=HM1.out.cell 24 rfl
 go_wp2_with fail
 go_loopw [3,4] (fun nv i wr=> ∃k:Nat,k≤m.ops.length∧k≤41∧i= .int .i64 (k:Int)∧nv= .int .i64 ((o.c.sco.length+wordsN m.ops k:Nat):Int)∧wordsN m.ops k≤k*8796093022208∧wr=w1) (fun _ i _=>m.ops.length-(intOf i).toNat)
 case atStart=>exact⟨0,Nat.zero_le _,Z11,rfl,rfl,words_zero m.ops,rfl⟩
 case round=>
  obtain⟨k,hk,hk41,rfl,rfl,hwd,rfl⟩:=hrel
  obtain⟨q,hq⟩: ∃q,q=o.c.sco.length+wordsN m.ops k:=⟨_,rfl⟩
  have HQ:=Lib.hid (And.intro hq hwd)
  rw[←hq]
  clear hq hwd
  by_cases hkn:k<m.ops.length∧k≤40
  case pos=>
   obtain⟨x,hx⟩: ∃x,m.ops[k]?=some x:=⟨_,List.getElem?_eq_getElem hkn.1⟩
   obtain⟨b2,o2,p2,ua,uac,e2,hra,hok,hza⟩:=HM.out.atW hx
   cases e2
   have y9:wr.cell? ⟨b2,o2+k*16+9,none⟩=some (.slice ua x.c.sco.length uac):=hza wr HB1.out 9 _ rfl
   have t1:(k:Int)<(m.ops.length:Int):=by omega
   have t2:(k:Int)≤40:=by omega
   have hs9:=hok
   obtain⟨q2,hq2⟩: ∃q2,q2=q+x.c.sco.length:=⟨_,rfl⟩
   have hwr:IntKind.i64.wrap ((q:Int)+(x.c.sco.length:Int))=(q2:Int):=by rw[hq2];exact gr_wrap o.c.sco.length (wordsN m.ops k) k x.c.sco.length q HQ.out.1 HQ.out.2 hk41 HN.out.1 hs9
   have HQ2:Hid (q2=o.c.sco.length+wordsN m.ops (k+1)∧wordsN m.ops (k+1)≤(k+1)*8796093022208):=Lib.hid (by rw[wordsN_succ hx,hq2];exact gr_next o.c.sco.length (wordsN m.ops k) k x.c.sco.length q HQ.out.1 HQ.out.2 hs9)
   have hl9:m.ops.length≤4611686018427387904:=HN.out.2
   clear hra hok hza hx hs9 hq2
   go_wp2_with fail
   go_roundw
   case rel=>exact⟨k+1,Z11,Z11,Z81,by rw[HQ2.out.1],HQ2.out.2,trivial⟩
   case measure=>simp[intOf];omega
  case neg=>
   have HG:Hid (greatE o m.ops=(decide (40<m.ops.length)||decide (200<q))):=Lib.hid (by
    unfold greatE
    have h1:min m.ops.length 41=k:=by omega
    rw[h1,HQ.out.1])
   by_cases h1:k<m.ops.length
   ·have t1:(k:Int)<(m.ops.length:Int):=by omega
    have t2: ¬(k:Int)≤40:=by omega
    have t3:(40:Int)<(m.ops.length:Int):=by omega
    have HR:Hid (greatE o m.ops=true):=Lib.hid (by rw[HG.out,decide_eq_true (show 40<m.ops.length by omega)];rfl)
    clear hkn h1
    go_wp2_with fail
    go_ret
    exact⟨Z28,HB1.out⟩
   ·have t1: ¬(k:Int)<(m.ops.length:Int):=by omega
    clear hkn h1
    by_cases h2:40<m.ops.length
    ·have t3:(40:Int)<(m.ops.length:Int):=by omega
     have HR:Hid (greatE o m.ops=true):=Lib.hid (by rw[HG.out,decide_eq_true h2];rfl)
     clear h2
     go_wp2_with fail
     go_ret
     exact⟨Z28,HB1.out⟩
    ·have t3: ¬(40:Int)<(m.ops.length:Int):=by omega
     have HR:Hid (greatE o m.ops=decide ((200:Int)<(q:Int))):=Lib.hid (by
      rw[HG.out,decide_eq_false h2,Bool.false_or]
      exact decide_eq_decide.2 Z11)
     clear h2
     go_wp2_with fail
     go_ret
     refine⟨?_,HB1.out⟩
     rw[HR.out]
     rfl
open Go.RowKit Go.Maps
structure Ev where
 ek:Int
 ew:Int
 ep:Int
 o:Op
 oa:Option Addr
 oc:Nat
 m:Mz
 ma:Option Addr
 mc:Nat
def noM:Mz:=⟨0,0,0,0,0,[],0,0,0⟩
def noO:Op:=⟨0,0,0,⟨0,[],0,0,[],[],[],[],[],[],[],false,0⟩⟩
instance:Inhabited Ev:=⟨⟨0,0,0,noO,none,0,noM,none,0⟩⟩
def CmS (c:Gr.Cm):Prop:=Gr.CmOk {c with sco:= [] }
theorem CmS.ok {c:Gr.Cm}(h:CmS c)(hs:c.sco.length≤1048576):Gr.CmOk c:=⟨h.fam,h.cli,h.usr,h.red,h.cha,h.met,h.ver,hs⟩
structure TxX (li:Nat)(c:Lb)(W:World)(u:Value)(o:Op):Prop where
 w:TxW li c W u o
 c:CmS o.c
def opX (li:Nat):Ek Op:=⟨16,26,opC,fun c W u o=>TxX li c W u o,fun k=>k=li⟩
theorem opX_ok (li:Nat):(opX li).Ok:=⟨(opW_ok li).pos,(opW_ok li).len,fun c W a u h=>(opW_ok li).one c W a u (TxX.w h),fun c c' W W' u a h hc hb=>⟨(opW_ok li).keep c c' W W' u a (TxX.w h) hc hb,TxX.c h⟩⟩
theorem SlR.wide {li lo:Nat}{c:Lb}{W:World}{v:Value}{l:List Op}(h:SlR (opX li) c lo W v l):SlR (opW li) c lo W v l:=by
 obtain⟨⟨vs,h1,h2⟩,h3⟩:=h
 exact⟨⟨vs,⟨h1.1,fun i a u ha hu=>TxX.w (h1.2 i a u ha hu)⟩,h2⟩,h3⟩
theorem SlR.texts {li lo:Nat}{c:Lb}{W:World}{v:Value}{l:List Op}(h:SlR (opX li) c lo W v l): ∀x∈l,CmS x.c:=by
 obtain⟨⟨vs,h1,h2⟩,h3⟩:=h
 intro x hx
 obtain⟨i,hi,rfl⟩:=List.getElem_of_mem hx
 exact TxX.c (h1.2 i _ (vs[i]'(by rw[h1.1];exact hi)) (List.getElem?_eq_getElem hi) (List.getElem?_eq_getElem (by rw[h1.1];exact hi)))
structure EvA (c:Lb)(W:World)(x:Ev):Prop where
 o:TxW 300 c W (.slice x.oa x.o.c.sco.length x.oc) x.o
 s:CmS x.o.c
 m:SlR (opW 300) c 300 W (.slice x.ma x.m.ops.length x.mc) x.m.ops
 t: ∀y∈x.m.ops,CmS y.c
 l:x.m.ops.length≤4611686018427387904
def evC (x:Ev):List Value:= [.int .i64 x.ek,.int .i64 x.ew,.int .i64 x.ep,.int .i64 x.o.ed,.int .i64 x.o.sq,.int .i64 x.o.lo,.int .i64 x.o.c.kd,.string ⟨x.o.c.fam.toArray⟩,.int .i64 x.o.c.ser,.int .i64 x.o.c.tok,.string ⟨x.o.c.cli.toArray⟩,.string ⟨x.o.c.usr.toArray⟩,.slice x.oa x.o.c.sco.length x.oc,.string ⟨x.o.c.red.toArray⟩,.string ⟨x.o.c.cha.toArray⟩,.string ⟨x.o.c.met.toArray⟩,.string ⟨x.o.c.ver.toArray⟩,.bool x.o.c.rf,.int .i64 x.o.c.edg,.int .i64 x.m.kd,.int .i64 x.m.fr,.int .i64 x.m.vw,.int .i64 x.m.nr,.int .i64 x.m.ao,.slice x.ma x.m.ops.length x.mc,.int .i64 x.m.cm,.int .i64 x.m.sb,.int .i64 x.m.ls]
def evE:Ek Ev:=⟨28,62,fun x _=>evC x,fun c W _ x=>EvA c W x,fun k=>k=300⟩
theorem TxW.keep {c c':Lb}{W W':World}{u:Value}{o:Op}(h:TxW 300 c W u o)(hc:Lx W c c')(hb: ∀k,k<W.heap.size→c k=300→W'.heap[k]?=W.heap[k]?):TxW 300 c' W' u o:=(opW_ok 300).keep c c' W W' u o h hc hb
theorem evE_ok:evE.Ok:=by
 refine⟨by show 0<28;decide,fun _ _=>rfl,fun c W x u _ y hy=> ?_,fun c c' W W' u x h hc hb=> ?_⟩
 ·have hy':y∈evC x:=hy
  unfold evC at hy'
  simp only[List.mem_cons,List.not_mem_nil,or_false] at hy'
  rcases hy' with rfl|rfl|rfl|rfl|rfl|rfl|rfl|rfl|rfl|rfl|rfl|rfl|rfl|rfl|rfl|rfl|rfl|rfl|rfl|rfl|rfl|rfl|rfl|rfl|rfl|rfl|rfl|rfl<;>rfl
 ·exact⟨EvA.o h|>.keep hc hb,EvA.s h,(EvA.m h).keep (opW_ok 300) hc fun k hk hl=>hb k hk Z71,EvA.t h,EvA.l h⟩
theorem greatE_no {o:Op}{l:List Op}(h:greatE o l=false):o.c.sco.length≤200∧l.length≤40:=by
 unfold greatE at h
 rw[Bool.or_eq_false_iff,decide_eq_false_iff_not,decide_eq_false_iff_not] at h
 omega
theorem EvA.tx {c:Lb}{W:World}{x:Ev}(h:EvA c W x)(hg:greatE x.o x.m.ops=false):TxA 300 c W (.slice x.oa x.o.c.sco.length x.oc) x.o:=⟨h.o.rd,h.o.lb,h.s.ok (by have:=(greatE_no hg).1;omega),fun h=>absurd h Z37⟩
end Go.Proofs.YtdmjegelcdghlaaGreat.Vw
