/-
  Chapter 22: a new replica; what one has, to be kept.
-/
import Derived.Deep.OwnRows
import Derived.Test.YtdmjegelcdghlaaGreatGGen
import Derived.Test.YtdmjegelcdghlaaGreatGDj
import Derived.Test.YtdmjegelcdghlaaGreatGQs
import Derived.Test.YtdmjegelcdghlaaGreatGDn
import Derived.Test.YtdmjegelcdghlaaGreatGRi
set_option maxRecDepth 100000
set_option maxHeartbeats 64000000
set_option linter.unusedVariables false
set_option linter.unusedSimpArgs false
namespace Go.Proofs.YtdmjegelcdghlaaGreat.Vw
open Go.RowKit Go.Maps
theorem NewO.keep {B B':Nat}{W W':World}{v:Value}{l:List Op}(h:NewO B W v l)(hB:B'≤B)(hs:W.heap.size≤W'.heap.size)(hk: ∀k,B≤k→k<W.heap.size→W'.heap[k]?=W.heap[k]?):NewO B' W' v l:=by
 obtain⟨vs,h1,h2,h3⟩:=h.ex
 refine⟨vs,h1,own_mono (B:=B) ⟨h2.1,?_⟩ hB,fun i o u ho hu=> ?_⟩
 ·rcases h2.2 with h4|⟨g,cap,cur,hv,hb,hh,r⟩
  ·exact .inl h4
  ·exact .inr ⟨g,cap,cur,hv,hb,(hk g hb (Array.getElem?_eq_some_iff.1 hh).1).trans hh,r⟩
 ·obtain⟨h5,h6,h7⟩:=h3 i o u ho hu
  refine⟨⟨rd_keepL h5.1 Z37 fun _ g hg hlt=>hk g (h7 g hg).1 hlt,h5.2⟩,h6,fun g hg=> ?_⟩
  obtain⟨h8,h9,h10,h11⟩:=h7 g hg
  exact⟨Z11,Z11,h10,fun q=>(frz_of (hk g h8 h9) q).trans (h11 q)⟩
theorem made_nat (n:Nat):madeCells #[Value.int .i64 0] n=(List.replicate n (Value.int .i64 0)).toArray:=by
 apply Array.ext
 ·simp[size_madeCells]
 ·intro i h1 h2
  simp[madeCells,Nat.mod_one]
theorem make_ints (n:Nat)(h:n≤1000000)(w:World):
 (Instr.makeSlice 67 (.int .i64 (n:Int)) (.int .i64 (n:Int))).run Tryz.prog w= .ok (.slice (some ⟨w.heap.size,0,none⟩) n n) (w.alloc (.cells (List.replicate n (.int .i64 0)).toArray 3)):=by
 have:=run_make_row' (P:=Tryz.prog) 67 3 (.int .i64 0) 8 Tryz.underlying67 int_row rfl .i64 .i64 n Z11 Z11 w
 rw[made_nat] at this
 exact this
theorem own_new (w:World)(n:Nat)(h:n≤1000000):(w.alloc (.cells (List.replicate n (.int .i64 0)).toArray 3)).ownsRow 0 3 1 (.slice (some ⟨w.heap.size,0,none⟩) n n) n (List.replicate n (Value.int .i64 0)):=
 ⟨Z93,.inr ⟨w.heap.size,n,_,rfl,Nat.zero_le _,heap_alloc_new _ _,Nat.le_refl _,Z67,Z93,Z93⟩⟩
theorem new_any (i:Nat)(c:Lb)(id n:Nat)(w:World)(h:1≤n∧n≤7∧id<n):
 Calls Tryz.prog 9 #[.int .i64 (id:Int),.int .i64 (n:Int)] w fun e w'=> ∃p,e= .returned (.tuple #[.pointer (some ⟨p,0,none⟩),.int .i64 0])∧w.heap.size≤p∧Below w.heap.size w w'∧ ∃c',Lx w c c'∧RV i c' w' p (newR id n):=by
 have HM:=Lib.hid (maj_any (n:Int) w)
 have t1: ¬Qs.maj (n:Int)=0:=by unfold Qs.maj;rw[if_neg Z11];omega
 have t2: ¬(id:Int)<0:=by omega
 have t3: ¬(n:Int)≤(id:Int):=by omega
 have HH:=Lib.hid h
 have hmk:=make_ints n Z11 w
 clear h
 go_enter Tryz.func9,Tryz.ntmps9
 go_wp2_with fail
 refine HM.out.mono ?_
 rintro e w1 ⟨rfl,rfl⟩
 go_wp2_with fail
 go_ret2
 have HO:=own_new w n (by have:=HH.out;omega)
 have hb1:Below w.heap.size w (w.alloc (.cells (List.replicate n (.int .i64 0)).toArray 3)):=(Below.refl _ _).alloc (Nat.le_refl _) _
 have hs1:(w.alloc (.cells (List.replicate n (.int .i64 0)).toArray 3)).heap.size=w.heap.size+1:=World.size_alloc _ _
 refine⟨w.heap.size+1,rfl,Nat.le_succ _,hb1.alloc hb1.size _,fun k=>if k=w.heap.size then 12+10*i else if k=w.heap.size+1 then 10+10*i else c k,fun k hk=> ?_,?_,?_⟩
 ·show(if _ then _ else _)=_
  rw[if_neg Z11,if_neg Z11]
 ·show(if _ then _ else _)=_
  rw[if_neg Z11,if_pos rfl]
 ·have hB:=Blk.new (w.alloc (.cells (List.replicate n (.int .i64 0)).toArray 3)) 94 (rpC (newR id n) (.slice none 0 0) (.slice (some ⟨w.heap.size,0,none⟩) n n) (.map none) (.slice none 0 0) (.slice none 0 0))
  rw[hs1] at hB
  refine⟨.slice none 0 0,.slice (some ⟨w.heap.size,0,none⟩) n n,.map none,.slice none 0 0,.slice none 0 0,hB,Row.nil _ _ _ _,?_,?_,Row.nil _ _ _ _,Row.nil _ _ _ _⟩
  ·refine⟨⟨List.replicate n undef,⟨by simp[newR],fun _ _ _ _ _=>trivial⟩,?_⟩,fun g hg=> ?_⟩
   ·rw[flat_nt _ _ (by simp[newR])]
    have h1:(ints (newR (O:=Op) id n).hv).map (Value.int .i64)=List.replicate n (Value.int .i64 0):=by unfold ints newR;simp
    have h2:(newR (O:=Op) id n).hv.length=n:=by unfold newR;simp
    rw[h1,h2]
    exact HO.alloc _
   ·cases hg
    exact if_pos rfl
  ·exact .inl ⟨rfl,by show(0:Nat)≠1;omega,fun _=>rfl⟩
theorem kept_any {i:Nat}{c:Lb}{r:Rp Op}(p:Nat)(w:World)(h:RV i c w p r)(hl:r.log.length≤1000000):
 Calls Tryz.prog 20 #[.pointer (some ⟨p,0,none⟩)] w fun e w'=> ∃v,e= .returned (.agg #[.int .i64 (r.vw:Int),.int .i64 (r.nr:Int),.int .i64 (r.bs:Int),.int .i64 (r.td:Int),v])∧NewO w.heap.size w' v r.log∧Below w.heap.size w w':=by
 obtain⟨lv,hv,xv,sv,uv,hbp,hrp⟩:=h.ex
 have HR:=Lib.hid (And.intro hrp.lg.sl hl)
 obtain⟨la,lc,el⟩:=hrp.lg.slice
 subst el
 have hp1:=hbp.lt
 obtain⟨w1,hw1⟩: ∃w1,w1=w.alloc (.cells #[.int .i64 0,.int .i64 0,.int .i64 0,.int .i64 0,.slice none 0 0] 47):=⟨_,rfl⟩
 have hb1:Below w.heap.size w w1:=by rw[hw1];exact(Below.refl _ _).alloc (Nat.le_refl _) _
 have hc2:=hbp.below hb1 hp1
 unfold rpC at hc2
 have HP:=Lib.hid (And.intro hbp (And.intro hp1 hb1))
 have y0:=hc2.cell 0 rfl
 have y1:=hc2.cell 1 rfl
 have y2:=hc2.cell 2 rfl
 have y3:=hc2.cell 3 rfl
 have y4:=hc2.cell 4 rfl
 have y5:=hc2.cell 5 rfl
 have y6:=hc2.cell 6 rfl
 have y7:=hc2.cell 7 rfl
 have y8:=hc2.cell 8 rfl
 have y9:=hc2.cell 9 rfl
 rw[hw1] at y0 y1 y2 y3 y4 y5 y6 y7 y8 y9
 clear hbp hrp h hl hc2 hp1 hb1 hw1
 go_enter Tryz.func20,Tryz.ntmps20
 go_upto_region 4 with fail
 obtain⟨b2,hb2⟩: ∃b2,b2=w.heap.size+1:=⟨_,rfl⟩
 obtain⟨w2,hw2⟩: ∃w2,w2=((w.alloc (.cells #[.int .i64 0,.int .i64 0,.int .i64 0,.int .i64 0,.slice none 0 0] 47)).alloc (.cells #[.int .i64 (r.id:Int),.int .i64 (r.n:Int),.int .i64 (r.st:Int),.int .i64 (r.vw:Int),.int .i64 (r.nr:Int),.int .i64 (r.bs:Int),.int .i64 (r.td:Int),.int .i64 (r.cm:Int),.int .i64 (r.sb:Int),.int .i64 (r.ls:Int)] 39)):=⟨_,rfl⟩
 have hs1:(w.alloc (.cells #[.int .i64 0,.int .i64 0,.int .i64 0,.int .i64 0,.slice none 0 0] 47)).heap.size=w.heap.size+1:=World.size_alloc _ _
 have hx1:Below w.heap.size w (w.alloc (.cells #[.int .i64 0,.int .i64 0,.int .i64 0,.int .i64 0,.slice none 0 0] 47)):=(Below.refl _ _).alloc (Nat.le_refl _) _
 have HB2:Hid (Below w.heap.size w w2):=Lib.hid (by rw[hw2];exact hx1.alloc hx1.size _)
 have HS2:Hid (Blk w2 b2 39 [.int .i64 (r.id:Int),.int .i64 (r.n:Int),.int .i64 (r.st:Int),.int .i64 (r.vw:Int),.int .i64 (r.nr:Int),.int .i64 (r.bs:Int),.int .i64 (r.td:Int),.int .i64 (r.cm:Int),.int .i64 (r.sb:Int),.int .i64 (r.ls:Int)]):=Lib.hid (by rw[hw2,hb2,←hs1];exact Blk.new _ 39 _)
 obtain⟨b1,hb1⟩: ∃b1,b1=w.heap.size:=⟨_,rfl⟩
 have HK2:Hid (Blk w2 b1 47 [.int .i64 0,.int .i64 0,.int .i64 0,.int .i64 0,.slice none 0 0]∧b1=w.heap.size):=Lib.hid ⟨by rw[hw2,hb1];exact(Blk.new w 47 _).alloc _,hb1⟩
 rw[←hb2,←hw2,←hb1]
 have HP2:=Lib.hid (HP.out.1.below HB2.out HP.out.2.1)
 clear y0 y1 y2 y3 y4 y5 y6 y7 y8 y9 hb2 hw2 hs1 hx1 hb1
 have HO:=Lib.hid (fun W (hb:Below w2.heap.size w2 W)=>own_any r.log (.slice la r.log.length lc) W (HR.out.1.below (opE_ok 1) (HB2.out.trans (hb.mono HB2.out.size))) (by have:=HR.out.2;omega))
 refine wp_region_K (fun W=>Below w2.heap.size w2 W∧W.cell? ⟨b2,3,none⟩=some (.int .i64 (r.vw:Int))∧W.cell? ⟨b2,4,none⟩=some (.int .i64 (r.nr:Int))∧W.cell? ⟨b2,5,none⟩=some (.int .i64 (r.bs:Int))∧W.cell? ⟨b2,6,none⟩=some (.int .i64 (r.td:Int))∧W.cell? ⟨p,10,none⟩=some (.slice la r.log.length lc)) 14 Z27 ?_ (fun hHeld1=> ?_)
 ·exact⟨(Below.refl _ _).drew,HS2.out.cell 3 rfl,HS2.out.cell 4 rfl,HS2.out.cell 5 rfl,HS2.out.cell 6 rfl,HP2.out.cell 10 rfl⟩
 refine tkK 0 ?_ (y:=Z1)
 try simp only[ap]
 refine tkK 1 ?_ (y:=Z1)
 try simp only[ap]
 refine tkK 2 ?_ (y:=Z1)
 try simp only[ap]
 refine tkK 3 ?_ (y:=Z1)
 try simp only[ap]
 refine tkK 4 ?_ (y:=Z1)
 try simp only[ap]
 refine tkK 5 ?_ (y:=Z1)
 try simp only[ap]
 refine tkK 6 ?_ (y:=Z1)
 try simp only[ap]
 refine tkK 7 ?_ (y:=Z1)
 try simp only[ap]
 refine tkK 8 ?_ (y:=Z1)
 try simp only[ap]
 refine tkK 9 ?_ (y:=Z1)
 try simp only[ap]
 refine tkK 10 ?_ (y:=Z1)
 try simp only[ap]
 refine tkK 11 ?_ (y:=Z1)
 try simp only[ap]
 refine wpAnyK_ready (rs:= [12]) Z27 Z93 ?_
 refine AllReadyK.cons (o:= ?oi13) ?hi13 (fun K hK=> ?hs13) AllReadyK.nil
 case hi13=>exact Z20
 go_simp
 refine(HO.out _ (Below.refl _ _).drew).mono ?_
 rintro e w3 ⟨v3,rfl,hn3,hb3⟩
 have HN3:=Lib.hid hn3
 have HB3:=Lib.hid ((Below.refl w2.heap.size w2).drew.trans hb3)
 obtain⟨a3,c3,e3⟩:=hn3.slice
 subst e3
 clear hn3 hb3
 go_wp2_with fail
 refine hK.out _ _ ?_ (fun hHeld2=> ?_)
 ·exact⟨HB3.out,(HS2.out.below HB3.out HS2.out.lt).cell 3 rfl,(HS2.out.below HB3.out HS2.out.lt).cell 4 rfl,(HS2.out.below HB3.out HS2.out.lt).cell 5 rfl,(HS2.out.below HB3.out HS2.out.lt).cell 6 rfl,(HP2.out.below HB3.out HP2.out.lt).cell 10 rfl⟩
 clear hK
 try simp only[ap]
 refine tkK 13 ?_ (y:=Z1)
 try simp only[ap]
 refine wpAnyK_lasts [] Z27 Z31 Z31 ?_
 simp only[List.filterMap_cons,List.filterMap_nil,List.getElem?_toArray,List.getElem?_cons_succ,List.getElem?_cons_zero]
 have HK3:Hid (Blk w3 b1 47 [.int .i64 0,.int .i64 0,.int .i64 0,.int .i64 0,.slice none 0 0]):=Lib.hid (HK2.out.1.below HB3.out HK2.out.1.lt)
 have z0:=HK3.out.cell 0 rfl
 have f0:=HK3.out.frozen 0
 have z1:=HK3.out.cell 1 rfl
 have f1:=HK3.out.frozen 1
 have z2:=HK3.out.cell 2 rfl
 have f2:=HK3.out.frozen 2
 have z3:=HK3.out.cell 3 rfl
 have f3:=HK3.out.frozen 3
 have z4:=HK3.out.cell 4 rfl
 have f4:=HK3.out.frozen 4
 refine wpList_step fun K hK=> ?_
 rw[if_pos Z31]
 go_simp
 refine hK _ _ ?_
 clear hK
 try simp only[ap]
 go_wp2_with fail
 have hk5:=((((HK3.out.set 0 (.int .i64 (r.vw:Int))).set 1 (.int .i64 (r.nr:Int))).set 2 (.int .i64 (r.bs:Int))).set 3 (.int .i64 (r.td:Int))).set 4 (.slice a3 r.log.length c3)
 have hp5:=(((((Ps.refl b1 w3).set 0 (.int .i64 (r.vw:Int))).set 1 (.int .i64 (r.nr:Int))).set 2 (.int .i64 (r.bs:Int))).set 3 (.int .i64 (r.td:Int))).set 4 (.slice a3 r.log.length c3)
 clear z0 z1 z2 z3 z4 f0 f1 f2 f3 f4 hHeld1 hHeld2
 generalize ((((w3.setCell ⟨b1,0,none⟩ (.int .i64 (r.vw:Int))).setCell ⟨b1,1,none⟩ (.int .i64 (r.nr:Int))).setCell ⟨b1,2,none⟩ (.int .i64 (r.bs:Int))).setCell ⟨b1,3,none⟩ (.int .i64 (r.td:Int))).setCell ⟨b1,4,none⟩ (.slice a3 r.log.length c3)=w5 at*
 have hbb:b1<w2.heap.size:=HK2.out.1.lt
 have hb1:=HK2.out.2
 have hs2:w.heap.size≤w2.heap.size:=HB2.out.size
 have HD:Hid (NewO w.heap.size w5 (.slice a3 r.log.length c3) r.log∧Below w.heap.size w w5):=Lib.hid (by
  refine⟨HN3.out.keep hs2 (by rw[hp5.size];exact Nat.le_refl _) fun k hk _=>hp5.heap k (by have:w2.heap.size≤k:=hk;omega),?_⟩
  have h3:=HB2.out.trans (HB3.out.mono hs2)
  exact⟨hp5.os.trans h3.os,hp5.tape.trans h3.tape,hp5.output.trans h3.output,by rw[hp5.size];exact h3.size,fun k hk=>(hp5.heap k Z11).trans (h3.block k hk)⟩)
 refine bodyPost_ret (results_cell_row rfl _ _ b1 47 #[.int .i64 (r.vw:Int),.int .i64 (r.nr:Int),.int .i64 (r.bs:Int),.int .i64 (r.td:Int),.slice a3 r.log.length c3] (0,0) _ rfl hk5 Tryz.underlying47 rfl Z27) rfl ?_
 exact⟨_,rfl,HD.out⟩
end Go.Proofs.YtdmjegelcdghlaaGreat.Vw
namespace Go.Proofs.YtdmjegelcdghlaaGreat
theorem Z218 {p:Prop}(h:p:=by
 have HN:=Lib.hid hy
 clear hy
 go_wp2_with fail
 go_ret
 exact⟨Z51,HB3.out⟩):p:=h
theorem Z51 {p:Prop}(h:p:=by rw[HN.out]<;>rfl):p:=h
theorem Z44 {p:Prop}(h:p:=by
 go_wp2_with fail
 go_ret
 exact⟨by rw[HN.out]<;>rfl,(Below.refl _ _).alloc (Nat.le_refl _) _⟩):p:=h
end Go.Proofs.YtdmjegelcdghlaaGreat
namespace Go.Proofs.YtdmjegelcdghlaaGreat.Vw
open Go.RowKit Go.Maps
def mayO (o:Op):Bool:=
 decide (0≤o.ed)&&decide (o.ed<32)&&decide (0≤o.sq)&&decide (o.sq≤1099511627776)&&decide (0≤o.lo)&&decide (o.lo≤o.sq)&&Gr.mayC o.c&&
  (if o.sq=0 then decide (o.c.kd=7)&&decide (o.ed=0) else decide (o.c.kd≠7))
theorem mayO_no {o:Op}(h:o.ed<0∨32≤o.ed∨o.sq<0∨1099511627776<o.sq∨o.lo<0∨o.sq<o.lo∨Gr.mayC o.c=false):mayO o=false:=by
 unfold mayO
 rcases h with h|h|h|h|h|h|h
 ·rw[decide_eq_false (show¬0≤o.ed by omega)];simp
 ·rw[decide_eq_false (show¬o.ed<32 by omega)];simp
 ·rw[decide_eq_false (show¬0≤o.sq by omega)];simp
 ·rw[decide_eq_false (show¬o.sq≤1099511627776 by omega)];simp
 ·rw[decide_eq_false (show¬0≤o.lo by omega)];simp
 ·rw[decide_eq_false (show¬o.lo≤o.sq by omega)];simp
 ·rw[h];simp
theorem mayO_yes {o:Op}(h1:0≤o.ed)(h2:o.ed<32)(h3:0≤o.sq)(h4:o.sq≤1099511627776)(h5:0≤o.lo)(h6:o.lo≤o.sq)(h7:Gr.mayC o.c=true):mayO o=if o.sq=0 then decide (o.c.kd=7)&&decide (o.ed=0) else decide (o.c.kd≠7):=by
 unfold mayO
 rw[decide_eq_true h1,decide_eq_true h2,decide_eq_true h3,decide_eq_true h4,decide_eq_true h5,decide_eq_true h6,h7]
 simp
theorem mayO_any (o:Op)(u:Value)(w:World)(hs:RdS w u o.c.sco)(hc:Gr.CmOk o.c):
 Calls Tryz.prog 47 #[opV o u] w fun e w'=>e= .returned (.bool (mayO o))∧Below w.heap.size w w':=by
 obtain⟨ua,uc,eu⟩:=hs.1.slice
 subst eu
 have HM:=Lib.hid (fun W (hb:Below w.heap.size w W)=>Gr.may_any o.c (.slice ua o.c.sco.length uc) W (rdS_low hs fun h0 g hg hlt=>hb.block g hlt) hc)
 clear hs hc
 unfold opV
 unfold Gr.cmV at HM
 go_enter Tryz.func47,Tryz.ntmps47
 go_upto_region 1 with fail
 by_cases h1:o.ed<0
 ·have HN:=Lib.hid (mayO_no (.inl h1))
  exact Z44
 by_cases h2:32≤o.ed
 ·have HN:=Lib.hid (mayO_no (.inr (.inl h2)))
  exact Z44
 by_cases h3:o.sq<0
 ·have HN:=Lib.hid (mayO_no (.inr (.inr (.inl h3))))
  exact Z44
 by_cases h4:1099511627776<o.sq
 ·have HN:=Lib.hid (mayO_no (.inr (.inr (.inr (.inl h4)))))
  exact Z44
 by_cases h5:o.lo<0
 ·have HN:=Lib.hid (mayO_no (.inr (.inr (.inr (.inr (.inl h5))))))
  exact Z44
 by_cases h6:o.sq<o.lo
 ·have HN:=Lib.hid (mayO_no (.inr (.inr (.inr (.inr (.inr (.inl h6)))))))
  exact Z44
 go_wp2_with fail
 refine(HM.out _ ((Below.refl _ _).alloc (Nat.le_refl _) _)).mono ?_
 rintro e w3 ⟨rfl,hb3⟩
 have hx1:Below w.heap.size w (w.alloc (.cells #[.int .i64 o.ed,.int .i64 o.sq,.int .i64 o.lo,.int .i64 o.c.kd,.string ⟨o.c.fam.toArray⟩,.int .i64 o.c.ser,.int .i64 o.c.tok,.string ⟨o.c.cli.toArray⟩,.string ⟨o.c.usr.toArray⟩,.slice ua o.c.sco.length uc,.string ⟨o.c.red.toArray⟩,.string ⟨o.c.cha.toArray⟩,.string ⟨o.c.met.toArray⟩,.string ⟨o.c.ver.toArray⟩,.bool o.c.rf,.int .i64 o.c.edg] 26)):=(Below.refl _ _).alloc (Nat.le_refl _) _
 have HB3:=Lib.hid (hx1.trans (hb3.mono hx1.size))
 have hk:=Blk.new w 26 [.int .i64 o.ed,.int .i64 o.sq,.int .i64 o.lo,.int .i64 o.c.kd,.string ⟨o.c.fam.toArray⟩,.int .i64 o.c.ser,.int .i64 o.c.tok,.string ⟨o.c.cli.toArray⟩,.string ⟨o.c.usr.toArray⟩,.slice ua o.c.sco.length uc,.string ⟨o.c.red.toArray⟩,.string ⟨o.c.cha.toArray⟩,.string ⟨o.c.met.toArray⟩,.string ⟨o.c.ver.toArray⟩,.bool o.c.rf,.int .i64 o.c.edg]
 have hk3:=hk.below hb3 hk.lt
 have y0:=hk3.cell 0 rfl
 have y1:=hk3.cell 1 rfl
 have y3:=hk3.cell 3 rfl
 clear hb3 hx1 hk hk3 HM
 cases hmc:Gr.mayC o.c
 ·have HN:=Lib.hid (mayO_no (o:=o) (.inr (.inr (.inr (.inr (.inr (.inr hmc)))))))
  clear y0 y1 y3
  go_wp2_with fail
  go_ret
  exact⟨Z51,HB3.out⟩
 have hy:=mayO_yes (o:=o) Z11 Z11 Z11 Z11 Z11 Z11 hmc
 clear h1 h2 h3 h4 h5 h6
 by_cases hq:o.sq=0
 ·rw[if_pos hq] at hy
  by_cases hk7:o.c.kd=7
  ·by_cases he:o.ed=0
   ·rw[hk7,he] at hy
    exact Z218
   ·rw[decide_eq_false he,Bool.and_false] at hy
    have HN:=Lib.hid hy
    clear hy
    go_wp2_with fail
    go_ret
    exact⟨by rw[HN.out];show Ending.returned (.bool (o.ed==0))=_;rw[beq_eq_false_iff_ne.2 he],HB3.out⟩
  ·rw[decide_eq_false hk7,Bool.false_and] at hy
   exact Z218
 ·rw[if_neg hq] at hy
  by_cases hk7:o.c.kd=7
  ·rw[decide_eq_false (fun h=>h hk7)] at hy
   exact Z218
  ·rw[decide_eq_true hk7] at hy
   have HN:=Lib.hid hy
   clear hy
   go_wp2_with fail
   go_ret
   exact⟨by rw[HN.out];show Ending.returned (.bool (o.c.kd !=7))=_;rw[bne_iff_ne.2 hk7],HB3.out⟩
open Go.RowKit Go.Maps
theorem fine1_any (o:Op)(u:Value)(w:World)(hs:RdS w u o.c.sco)(hc:Gr.CmOk o.c):
 Calls Tryz.prog 96 #[opV o u] w fun e w'=>e= .returned (.bool (!mayO o))∧Below w.heap.size w w':=by
 obtain⟨ua,uc,eu⟩:=hs.1.slice
 subst eu
 have HM:=Lib.hid (fun W (hb:Below w.heap.size w W)=>mayO_any o (.slice ua o.c.sco.length uc) W (rdS_low hs fun h0 g hg hlt=>hb.block g hlt) hc)
 clear hs hc
 unfold opV at HM⊢
 go_enter Tryz.func96,Tryz.ntmps96
 go_wp2_with fail
 refine(HM.out _ ((Below.refl _ _).alloc (Nat.le_refl _) _)).mono ?_
 rintro e w3 ⟨rfl,hb3⟩
 have hx1:Below w.heap.size w (w.alloc (.cells #[.int .i64 o.ed,.int .i64 o.sq,.int .i64 o.lo,.int .i64 o.c.kd,.string ⟨o.c.fam.toArray⟩,.int .i64 o.c.ser,.int .i64 o.c.tok,.string ⟨o.c.cli.toArray⟩,.string ⟨o.c.usr.toArray⟩,.slice ua o.c.sco.length uc,.string ⟨o.c.red.toArray⟩,.string ⟨o.c.cha.toArray⟩,.string ⟨o.c.met.toArray⟩,.string ⟨o.c.ver.toArray⟩,.bool o.c.rf,.int .i64 o.c.edg] 26)):=(Below.refl _ _).alloc (Nat.le_refl _) _
 have HB3:=Lib.hid (hx1.trans (hb3.mono hx1.size))
 clear hx1 hb3
 go_wp2_with fail
 go_ret
 exact⟨rfl,HB3.out⟩
def idxO (p:Op→Bool)(l:List Op):Int:=if l.any p then(l.findIdx p:Nat) else-1
theorem idxO_hit (p:Op→Bool)(l:List Op)(k:Nat)(x:Op)(hx:l[k]?=some x)(hp:p x=true)(h: ∀j y,j<k→l[j]?=some y→p y=false):idxO p l=k:=by
 obtain⟨hk,rfl⟩:=List.getElem?_eq_some_iff.1 hx
 have ha:l.any p=true:=List.any_eq_true.2 ⟨_,List.getElem_mem hk,hp⟩
 unfold idxO
 exact Z220
theorem idxO_miss (p:Op→Bool)(l:List Op)(h: ∀(j:Nat) y,l[j]?=some y→p y=false):idxO p l= -1:=by
 unfold idxO
 exact Z104
def badO (o:Op):Bool:= !mayO o
theorem indexO_any {li lo:Nat}{c:Lb}(v:Value)(l:List Op)(w:World)(h:SlR (opE li) c lo w v l)(hN:l.length≤1073741824):
 Calls Tryz.prog 108 #[v,.func (Fn.func 96) #[] #[]] w fun e w'=>e= .returned (.int .i64 (idxO badO l))∧Below w.heap.size w w':=by
 obtain⟨a,cp,rfl⟩:=h.slice
 have HH:=Lib.hid h
 clear h
 go_enter Tryz.func108,Tryz.ntmps108
 go_wp2_with fail
 go_loopw [8] (fun i wr=> ∃k:Nat,k≤l.length∧i= .int .i64 k∧Below w.heap.size w wr∧ ∀j y,j<k→l[j]?=some y→badO y=false) (fun i _=>l.length-(intOf i).toNat)
 case atStart=>exact⟨0,Z11,rfl,Below.refl _ _,fun j y hj=>Z11⟩
 case round=>
  obtain⟨k,hk,rfl,hbl,hall⟩:=hrel
  have HA:=Lib.hid (And.intro hbl hall)
  clear hall hbl
  by_cases hkn:k<l.length
  case neg=>
   have hk':k=l.length:=by omega
   subst hk'
   have HM:=Lib.hid (idxO_miss badO l (fun j y hj=>HA.out.2 j y (by have:=(List.getElem?_eq_some_iff.1 hj).1;omega) hj))
   go_wp2_with fail
   go_ret
   exact⟨by rw[HM.out];rfl,HA.out.1⟩
  case pos=>
  obtain⟨x,hx⟩: ∃x,l[k]?=some x:=⟨_,List.getElem?_eq_getElem hkn⟩
  obtain⟨b,o,cap,u,e1,hin,hc⟩:=(HH.out.below (opE_ok li) HA.out.1).get (opE_ok li) hx
  cases e1
  obtain⟨ua,uc,eu⟩:=(TxA.rd hin).1.slice
  subst eu
  have q0:=hc 0 _ rfl
  have q1:=hc 1 _ rfl
  have q2:=hc 2 _ rfl
  have q3:=hc 3 _ rfl
  have q4:=hc 4 _ rfl
  have q5:=hc 5 _ rfl
  have q6:=hc 6 _ rfl
  have q7:=hc 7 _ rfl
  have q8:=hc 8 _ rfl
  have q9:=hc 9 _ rfl
  have q10:=hc 10 _ rfl
  have q11:=hc 11 _ rfl
  have q12:=hc 12 _ rfl
  have q13:=hc 13 _ rfl
  have q14:=hc 14 _ rfl
  have q15:=hc 15 _ rfl
  have HW:=Lib.hid (fun W (hb:Below wr.heap.size wr W)=>fine1_any x (.slice ua x.c.sco.length uc) W (rdS_low (TxA.rd hin) fun h0 g hg hlt=>hb.block g hlt) (TxA.ok hin))
  have HX:=Lib.hid hx
  have hkl:(k:Int)<(l.length:Int):=by omega
  unfold opV at HW
  rw[show(!mayO x)=badO x from rfl] at HW
  simp only[show(opE li).sz=16 from rfl,Nat.add_zero] at q0 q1 q2 q3 q4 q5 q6 q7 q8 q9 q10 q11 q12 q13 q14 q15
  clear hc hx hin
  cases hw:badO x with
  |true=>
   rw[hw] at HW
   have HHIT:=Lib.hid (idxO_hit badO l k x HX.out hw HA.out.2)
   clear hw
   go_wp2_with fail
   refine(HW.out _ (Below.refl _ _)).mono ?_
   rintro e w1 ⟨rfl,hb1⟩
   have HB1:=Lib.hid (HA.out.1.trans (hb1.mono HA.out.1.size))
   clear hb1 q0 q1 q2 q3 q4 q5 q6 q7 q8 q9 q10 q11 q12 q13 q14 q15
   go_wp2_with fail
   go_ret
   exact⟨by rw[HHIT.out];rfl,HB1.out⟩
  |false=>
   rw[hw] at HW
   have HWD:=Lib.hid hw
   clear hw
   go_wp2_with fail
   refine(HW.out _ (Below.refl _ _)).mono ?_
   rintro e w1 ⟨rfl,hb1⟩
   have HB1:=Lib.hid (HA.out.1.trans (hb1.mono HA.out.1.size))
   clear hb1 q0 q1 q2 q3 q4 q5 q6 q7 q8 q9 q10 q11 q12 q13 q14 q15
   go_wp2_with fail
   go_roundw
   case rel=>
    refine⟨k+1,Z11,Z81,HB1.out,fun j y hj hy=> ?_⟩
    by_cases hjk:j=k
    ·subst hjk
     rw[HX.out] at hy
     cases hy
     exact HWD.out
    ·exact HA.out.2 j y Z11 hy
   case measure=>simp[intOf];omega
theorem containsO_any {li lo:Nat}{c:Lb}(v:Value)(l:List Op)(w:World)(h:SlR (opE li) c lo w v l)(hN:l.length≤1073741824):
 Calls Tryz.prog 95 #[v,.func (Fn.func 96) #[] #[]] w fun e w'=>e= .returned (.bool (l.any badO))∧Below w.heap.size w w':=by
 have HI:=Lib.hid (indexO_any v l w h hN)
 have hd:decide (0≤idxO badO l)=l.any badO:=by
  unfold idxO
  by_cases ha:(l.any badO)=true
  ·rw[if_pos ha,ha];simp
  ·rw[if_neg ha];simp at ha⊢;exact ha
 have HD:=Lib.hid hd
 obtain⟨a,cp,rfl⟩:=h.slice
 clear hd h
 generalize idxO badO l=r at*
 go_enter Tryz.func95,Tryz.ntmps95
 go_wp2_with fail
 refine HI.out.mono ?_
 rintro e w1 ⟨rfl,e1⟩
 have HB:=Lib.hid e1
 clear e1
 go_wp2_with fail
 go_ret
 exact⟨by rw[←HD.out];rfl,HB.out⟩
theorem all_bad (l:List Op):(!l.any badO)=l.all mayO:=by
 induction l with
 |nil=>rfl
 |cons a l ih=>
  rw[List.any_cons,List.all_cons,Bool.not_or,ih]
  unfold badO
  rw[Bool.not_not]
theorem fine_any {li lo:Nat}{c:Lb}(v:Value)(l:List Op)(w:World)(h:SlR (opE li) c lo w v l)(hN:l.length≤1073741824):
 Calls Tryz.prog 75 #[v] w fun e w'=>e= .returned (.bool (l.all mayO))∧Below w.heap.size w w':=by
 have HI:=Lib.hid (containsO_any v l w h hN)
 obtain⟨a,cp,rfl⟩:=h.slice
 rw[←all_bad]
 clear h
 generalize l.any badO=r at*
 go_enter Tryz.func75,Tryz.ntmps75
 go_wp2_with fail
 refine HI.out.mono ?_
 rintro e w1 ⟨rfl,e1⟩
 have HB:=Lib.hid e1
 clear e1
 go_wp2_with fail
 go_ret
 exact⟨rfl,HB.out⟩
open Go.RowKit Go.Maps
theorem slice_hi (w:World)(t:TypeId)(a:Option Addr)(n cap k:Nat)(ht:Tryz.prog.underlying t=some (.slice (Tryz.prog.elem t))){s:Nat}(hs:(sizeOf (Tryz.prog.elem t)).run Tryz.prog w= .ok s w)(h:k≤cap):
 (Instr.slice t (.slice a n cap) none (some (.int .i64 (k:Int))) none).run Tryz.prog w= .ok (.slice a k cap) w:=sl_front w t a n cap k .i64 ht hs h
theorem drop_min {α:Type}(l:List α)(k:Nat):l.drop (min k l.length)=l.drop k:=by
 rcases Nat.le_total k l.length with h|h
 ·rw[Nat.min_eq_left h]
 ·rw[Nat.min_eq_right h,List.drop_of_length_le h,List.drop_of_length_le (Nat.le_refl _)]
theorem clone_any {li lo:Nat}{c:Lb}(l:List Op)(v:Value)(W:World)(h:SlR (opE li) c lo W v l)(hl:l.length≤1073741824):
 Calls Tryz.prog 59 #[v] W fun e w'=> ∃v',e= .returned v'∧Below W.heap.size W w'∧(∃a cp,v'= .slice a l.length cp)∧(∀g,v'.ownBlock=some g→W.heap.size≤g)∧ ∀lo',Lx W c (c.row v' lo')∧Row (opE li) (c.row v' lo') lo' w' v' l:=by
 obtain⟨vs,h1,h2⟩:=h.ex
 refine(cloneO_any l.length (flat (opE li) l vs) v W h2 (flat_one (opE_ok li) l vs h1.1 h1.2) hl).mono ?_
 rintro e w' ⟨v',rfl,ho,hb⟩
 refine⟨v',rfl,hb,(Rd.of_own ho).slice,fun g hg=>(ho.lt g hg).1,fun lo'=> ?_⟩
 have hx:Lx W c (c.row v' lo'):=fun k hk=>by
  unfold Lb.row
  rw[if_neg fun e=>by have:=(ho.lt k e).1;omega]
 exact⟨hx,⟨vs,h1.keep (opE_ok li) hx fun k hk _=>hb.block k hk,own_mono ho (Nat.zero_le _)⟩,fun g hg=>if_pos hg⟩
theorem lay_any {i lo li:Nat}{c:Lb}{r:Rp Op}(a:Nat)(ops:List Op)(ov:Value)(p:Nat)(w:World)(h:RV i c w p r)(ho:SlR (opE li) c lo w ov ops)(hlo:lo≠10+10*i)(ha:a≤r.ls)(hls:r.ls=r.bs+r.log.length)(hb:r.log.length≤1000000∧r.bs≤2*TM∧ops.length≤1048576∧a≤4*TM):
 Calls Tryz.prog 76 #[.pointer (some ⟨p,0,none⟩),.int .i64 (a:Int),ov] w fun e w'=>e= .returned (.int .i64 ((max a r.bs:Nat):Int))∧Mt (Fi i) i c w w' p (lay r a ops):=by
 obtain⟨hlp,lv,hv,xv,sv,uv,hbp,hrp⟩:=h
 obtain⟨la,lc,el⟩:=hrp.lg.slice
 subst el
 obtain⟨oa,oc,eo⟩:=ho.slice
 subst eo
 have hcap:=hrp.lg.sl
 have HH:=Lib.hid (And.intro hlp (And.intro hbp (And.intro hrp (And.intro ho (And.intro hlo (And.intro ha (And.intro hls hb)))))))
 have y5:=hbp.cell 5 rfl
 obtain⟨f,hf⟩: ∃f,f=max a r.bs:=⟨_,rfl⟩
 obtain⟨k,hk⟩: ∃k,k=f-r.bs:=⟨_,rfl⟩
 obtain⟨j,hj⟩: ∃j,j=f-a:=⟨_,rfl⟩
 obtain⟨jm,hjm⟩: ∃jm,jm=min j ops.length:=⟨_,rfl⟩
 have hTM:TM=1099511627776:=rfl
 have hkl:k≤r.log.length:=by omega
 have hmx:max (a:Int) (r.bs:Int)=(f:Int):=by omega
 have hw1:IntKind.i64.wrap ((f:Int)-(a:Int))=(j:Int):=by rw[IntWalk.i64_in _ Z11];omega
 have hw2:IntKind.i64.wrap ((f:Int)-(r.bs:Int))=(k:Int):=by rw[IntWalk.i64_in _ Z11];omega
 have hmn:min (j:Int) (ops.length:Int)=(jm:Int):=by omega
 have HSB:=ho.back (opE_ok li) rfl jm Z11
 obtain⟨ob,hob⟩: ∃ob,ob=(if oc=jm then oa else oa.map (·.add (jm*16))):=⟨_,rfl⟩
 rw[show(opE li).sz=16 from rfl,←hob] at HSB
 have hsl1: ∀W,(Instr.slice 35 (.slice oa ops.length oc) (some (.int .i64 (jm:Int))) none none).run Tryz.prog W= .ok (.slice ob (ops.length-jm) (oc-jm)) W:=fun W=>by
  rw[hob]
  exact slice_int W 35 oa ops.length oc jm rfl (s:=16) Z27 Z11
 have hlcap:r.log.length≤lc:=by
  obtain⟨vs,_,h2⟩:=hcap.ex
  rcases h2.2 with⟨⟨_,_,e⟩,h0⟩|⟨b,o,c',e,hle,_⟩
  ·omega
  ·cases e;exact hle
 have hsl2: ∀W,(Instr.slice 35 (.slice la r.log.length lc) none (some (.int .i64 (k:Int))) none).run Tryz.prog W= .ok (.slice la k lc) W:=fun W=>slice_hi W 35 la r.log.length lc k rfl (s:=16) Z27 Z11
 have HSF:=hcap.front (opE_ok 1) rfl k hkl
 have hdl:(ops.drop jm).length=ops.length-jm:=List.length_drop
 have htl:(r.log.take k).length=k:=by rw[List.length_take];omega
 have HK:=Lib.hid (And.intro hf (And.intro hk (And.intro hj (And.intro hjm (And.intro hkl (And.intro hdl htl))))))
 have HSB':=Lib.hid HSB
 have HSF':=Lib.hid HSF
 clear hlp hbp hrp ho hlo ha hls hb hcap hf hk hj hjm hkl hTM HSB HSF hob hdl htl hlcap
 go_enter Tryz.func76,Tryz.ntmps76
 go_upto_region 4 with fail
 have HP:=Lib.hid HH.out.2.1
 have HCL:=Lib.hid (fun W (hb:Below w.heap.size w W)=>clone_any (r.log.take k) (.slice la k lc) W (HSF'.out.below (opE_ok 1) hb) (by have:=HH.out.2.2.2.2.2.2.2.1;rw[HK.out.2.2.2.2.2.2];have:=HK.out.2.2.2.2.1;omega))
 have HOW:=Lib.hid (fun W (hb:Below w.heap.size w W)=>own_any (ops.drop jm) (.slice ob (ops.length-jm) (oc-jm)) W (HSB'.out.below (opE_ok li) hb) (by have:=HH.out.2.2.2.2.2.2.2.2.2.1;rw[HK.out.2.2.2.2.2.1];omega))
 refine wp_region_K (fun W=>Below w.heap.size w W∧W.cell? ⟨p,10,none⟩=some (.slice la r.log.length lc)∧W.cell? ⟨p,5,none⟩=some (.int .i64 (r.bs:Int))) 15 Z27 ?_ (fun hHeld1=> ?_)
 ·exact⟨(Below.refl _ _).drew,HP.out.cell 10 rfl,HP.out.cell 5 rfl⟩
 refine tkP 0 ?_ (y:=Z189)
 try simp only[ap]
 refine tkK 1 ?_ (y:=Z1)
 try simp only[ap]
 refine tkK 2 ?_ (y:=Z1)
 try simp only[ap]
 refine tkK 3 ?_ (y:=Z1)
 try simp only[ap]
 refine tkK 4 ?_ (y:=Z1)
 try simp only[ap]
 refine tkK 5 ?_ (y:=Z1)
 try simp only[ap]
 refine tkK 6 ?_ (y:=Z1)
 try simp only[ap]
 refine tkK 7 ?_ (y:=Z1)
 try simp only[ap]
 refine tkK 8 ?_ (y:=Z1)
 try simp only[ap]
 refine tkK 9 ?_ (y:=Z1)
 try simp only[ap]
 refine tkK 10 ?_ (y:=Z1)
 try simp only[ap]
 refine tkK 11 ?_ (y:=Z1)
 try simp only[ap]
 refine tkK 13 ?_ (y:=Z1)
 try simp only[ap]
 refine wpAnyK_ready (rs:= [12]) Z27 Z93 ?_
 refine AllReadyK.cons (o:= ?oi14) ?hi14 (fun K hK=> ?hs14) AllReadyK.nil
 case hi14=>exact Z20
 go_simp
 refine(HCL.out _ (Below.refl _ _).drew).mono ?_
 rintro e w2 ⟨v2,rfl,hb2,⟨a2,c2,e2⟩,hng2,hrow2⟩
 rw[HK.out.2.2.2.2.2.2] at e2
 subst e2
 have HB2:=Lib.hid ((Below.refl w.heap.size w).drew.trans hb2)
 have HP2:=Lib.hid (HP.out.below HB2.out HP.out.lt)
 have HRW2:=Lib.hid (hrow2 (11+10*i))
 have HNG:=Lib.hid hng2
 clear hb2 hrow2 hng2
 go_wp2_with fail
 refine hK.out _ _ ?_ (fun hHeld2=> ?_)
 ·exact⟨HB2.out,HP2.out.cell 10 rfl,HP2.out.cell 5 rfl⟩
 clear hK
 try simp only[ap]
 refine wpAnyK_ready (rs:= [14]) Z27 Z93 ?_
 refine AllReadyK.cons (o:= ?oi15) ?hi15 (fun K hK=> ?hs15) AllReadyK.nil
 case hi15=>exact Z20
 go_simp
 refine(HOW.out _ HB2.out).mono ?_
 rintro e w3 ⟨v3,rfl,hnew,hb3⟩
 obtain⟨a3,c3,e3⟩:=hnew.slice
 subst e3
 have HB3:=Lib.hid hb3
 have HP3:=Lib.hid (HP2.out.below hb3 HP2.out.lt)
 have HNW:=Lib.hid hnew
 clear hb3 hnew
 go_wp2_with fail
 refine hK.out _ _ ?_ (fun hHeld2=> ?_)
 ·exact⟨HB2.out.trans (HB3.out.mono HB2.out.size),HP3.out.cell 10 rfl,HP3.out.cell 5 rfl⟩
 clear hK
 try simp only[ap]
 refine wpAnyK_lasts [16,17,18] Z27 Z31 Z31 ?_
 simp only[List.filterMap_cons,List.filterMap_nil,List.getElem?_toArray,List.getElem?_cons_succ,List.getElem?_cons_zero]
 have hx3:=HNW.out.row (c.row (.slice a2 k c2) (11+10*i)) 1 1
 have hrw3:=HRW2.out.2.keep (opE_ok 1) hx3.1 fun k hk _=>HB3.out.block k hk
 have hb03:Below w.heap.size w w3:=HB2.out.trans (HB3.out.mono HB2.out.size)
 obtain⟨v4,w4,hrun,hx4,hrow4,hf4,hbl4⟩:=hrw3.app (t:=35) (ty:=35) (m:=ops.drop jm) (opE_ok 1) Tryz.underlying35 op_row rfl hx3.2.sl.ex (fun e=>by have:11+10*i=1:=e;omega) (by have h1:=HK.out;have h2:=HH.out.2.2.2.2.2.2.2;rw[h1.2.2.2.2.2.1,h1.2.2.2.2.2.2];omega) (by have h1:=HK.out;have h2:=HH.out.2.2.2.2.2.2.2;rw[h1.2.2.2.2.2.1,h1.2.2.2.2.2.2];unfold maxLen;omega)
 obtain⟨a4,c4,e4⟩:=hrow4.slice
 have hll:(r.log.take k++ops.drop jm).length=k+(ops.length-jm):=by rw[List.length_append,HK.out.2.2.2.2.2.1,HK.out.2.2.2.2.2.2]
 rw[hll] at e4
 subst e4
 have hk4: ∀g,g<w.heap.size→w4.heap[g]?=w.heap[g]?:=fun g hg=>(hbl4 g (Nat.lt_of_lt_of_le hg hb03.size) fun e=>absurd (HNG.out g e) (by show¬w.heap.size≤g;omega)).trans (hb03.block g hg)
 obtain⟨cc,hcc⟩: ∃cc,cc=((c.row (.slice a2 k c2) (11+10*i)).new w2.heap.size (.slice a3 (ops.drop jm).length c3) 1 1).row (.slice a4 (k+(ops.length-jm)) c4) (11+10*i):=⟨_,rfl⟩
 rw[←hcc] at hx4 hrow4
 have hlx:Lx w c cc:=fun g hg=>(hx4 g (Nat.lt_of_lt_of_le hg hb03.size)).trans ((hx3.1 g (Nat.lt_of_lt_of_le hg HB2.out.size)).trans (HRW2.out.1 g hg))
 have hpl:=HP.out.lt
 have hcp:cc p=10+10*i:=(hlx p hpl).trans HH.out.1
 have HP4:Hid (Blk w4 p 94 (rpC r (.slice la r.log.length lc) hv xv sv uv)):=Lib.hid ((hk4 p hpl).trans HP.out)
 have HP5:Hid (Blk (w4.setCell ⟨p,10,none⟩ (.slice a4 (k+(ops.length-jm)) c4)) p 94 (rpC {r with log:=r.log.take k++ops.drop jm} (.slice a4 (k+(ops.length-jm)) c4) hv xv sv uv)):=Lib.hid (HP4.out.set 10 _)
 have hs4:w.heap.size≤w4.heap.size:=Nat.le_trans hb03.size hf4.size
 have HR5:Hid (RP i cc (w4.setCell ⟨p,10,none⟩ (.slice a4 (k+(ops.length-jm)) c4)) {r with log:=r.log.take k++ops.drop jm} (.slice a4 (k+(ops.length-jm)) c4) hv xv sv uv):=Lib.hid (by
  have h1: ∀g,g<w.heap.size→c g≠10+10*i→(w4.setCell ⟨p,10,none⟩ (.slice a4 (k+(ops.length-jm)) c4)).heap[g]?=w.heap[g]?:=fun g hg hne=>by
   rw[set_heap_ne _ _ _ _ _ (fun e=>hne (by rw[e];exact HH.out.1))]
   exact hk4 g hg
  have h2:=HH.out.2.2.1
  refine⟨?_,h2.hvK hlx fun g hg hl=>h1 g hg Z11,h2.of.keep hlx fun g hg hl=>h1 g hg Z11,h2.svK hlx fun g hg hl=>h1 g hg Z11,h2.ouK hlx fun g hg hl=>h1 g hg Z11⟩
  refine hrow4.keep (opE_ok 1) (Lx.refl _ _) fun g hg hl=>set_heap_ne _ _ _ _ _ fun e=> ?_
  rw[e,hcp] at hl
  rcases hl with hl|hl
  ·have:10+10*i=1:=hl
   omega
  ·omega)
 have HF5:Hid (Lx w c cc∧cc p=10+10*i∧Fr (Fi i) c w (w4.setCell ⟨p,10,none⟩ (.slice a4 (k+(ops.length-jm)) c4))):=Lib.hid (by
  have h1:Below w.heap.size w w4:=⟨hf4.os.trans hb03.os,hf4.tape.trans hb03.tape,hf4.output.trans hb03.output,hs4,hk4⟩
  exact⟨hlx,hcp,(Fr.of_below h1).set _ _ fun _=>by show Fi i (c p);rw[HH.out.1];exact Fi_0 i⟩)
 have hdl:(ops.drop jm).length=ops.length-jm:=HK.out.2.2.2.2.2.1
 rw[hdl] at hrun
 have HRUN:=Lib.hid hrun
 have HLL:=Lib.hid hll
 have y10:=HP4.out.cell 10 rfl
 have f10:=HP4.out.frozen 10
 clear hx3 hrw3 hb03 hrun hx4 hrow4 hf4 hbl4 hk4 hcc hlx hpl hcp hs4 hdl hll hHeld1 hHeld2
 refine wpList_execA rfl (execA (.tmp 39) (.tmp 41) 35 rfl rfl rfl HRUN.out) ?_
 try simp only[ap]
 refine wpList_step fun K hK=> ?_
 rw[if_pos Z31]
 go_simp
 refine hK _ _ ?_
 clear hK
 try simp only[ap]
 refine wpList_step fun K hK=> ?_
 rw[if_pos Z31]
 go_simp
 refine hK _ _ ?_
 clear hK
 try simp only[ap]
 refine wpList_step fun K hK=> ?_
 rw[if_pos Z31]
 go_simp
 refine hK _ _ ?_
 clear hK
 try simp only[ap]
 clear y10 f10 HRUN hsl1 hsl2 hw1 hw2 hmx hmn
 go_wp2_with fail
 generalize w4.setCell ⟨p,10,none⟩ (.slice a4 (k+(ops.length-jm)) c4)=w5 at*
 obtain⟨n5,hn5⟩: ∃n5,n5=k+(ops.length-jm):=⟨_,rfl⟩
 rw[←hn5] at HP5 HR5 HLL
 have y5:=HP5.out.cell 5 rfl
 have y10:=HP5.out.cell 10 rfl
 have y9:=HP5.out.cell 9 rfl
 have f9:=HP5.out.frozen 9
 have hwa:IntKind.i64.wrap ((r.bs:Int)+(n5:Int))=((r.bs+n5:Nat):Int):=by
  have h1:=HK.out
  have h2:=HH.out.2.2.2.2.2.2.2
  have hTM:TM=1099511627776:=rfl
  exact Z197
 have hwb:wrap64 ((r.bs:Int)+(n5:Int))=((r.bs+n5:Nat):Int):=by
  have h1:=HK.out
  have h2:=HH.out.2.2.2.2.2.2.2
  have hTM:TM=1099511627776:=rfl
  rw[IntWalk.wrap64_in _ Z11];omega
 clear hn5
 go_region
 have HD:Hid (Mt (Fi i) i c w (w5.setCell ⟨p,9,none⟩ (.int .i64 ((r.bs:Int)+(n5:Int)))).drew p (lay r a ops)):=Lib.hid (by
  have hps:Ps p w5 (w5.setCell ⟨p,9,none⟩ (.int .i64 ((r.bs:Int)+(n5:Int)))).drew:=((Ps.refl p w5).set _ _).drew
  have h0:layL r a ops=r.log.take k++ops.drop jm:=by
   unfold layL
   have h1:=HK.out
   rw[←h1.1,←h1.2.1,←h1.2.2.1,h1.2.2.2.1,drop_min]
  have h1:lay r a ops= {r with log:=r.log.take k++ops.drop jm,ls:=r.bs+n5}:=by unfold lay;rw[h0,HLL.out]
  refine⟨cc,HF5.out.1,HF5.out.2.2.trans HF5.out.1 (hps.fr (by rw[HF5.out.2.1];exact Fi_0 i)),HF5.out.2.1,.slice a4 n5 c4,hv,xv,sv,uv,?_,?_⟩
  ·rw[h1]
   exact(HP5.out.set 9 _).drew
  ·have h2:=HR5.out.ps HF5.out.2.1 hps
   rw[h1]
   exact⟨h2.lg,h2.hv,h2.of,h2.sv,h2.ou⟩)
 have HFM:=Lib.hid HK.out.1
 clear y5 y9 y10 f9 hwa hwb
 go_wp2_with fail
 go_ret
 exact⟨by rw[HFM.out];rfl,HD.out⟩
end Go.Proofs.YtdmjegelcdghlaaGreat.Vw
namespace Go.Proofs.YtdmjegelcdghlaaGreat
theorem Z151 {p:Prop}(h:p:=by
 show r.log.drop (max r.bs (r.hv.getD j 0)-r.bs)=_
 rw[HAT.out.2,←HAT.out.1,←HKK.out.1]):p:=h
end Go.Proofs.YtdmjegelcdghlaaGreat
namespace Go.Proofs.YtdmjegelcdghlaaGreat.Vw
open Go.RowKit Go.Maps
def Lb.ext (c:Lb)(B:Nat):Lb:=fun k=>if k<B then c k else 1
theorem Lb.ext_lx (c:Lb)(w:World):Lx w c (c.ext w.heap.size):=fun k hk=>if_pos hk
theorem Lb.ext_new (c:Lb){B k:Nat}(h:B≤k):c.ext B k=1:=if_neg Z11
def tellN (r:Rp Op)(j:Nat):Rp Op:=(List.range j).foldl (fun q k=>snd1 (mPrep q k) q k) r
theorem tellN_succ (r:Rp Op)(j:Nat):tellN r (j+1)=snd1 (mPrep (tellN r j) j) (tellN r j) j:=by unfold tellN;rw[List.range_succ,List.foldl_append];rfl
theorem snd1_out (m:Ms Op)(r:Rp Op)(k:Nat): ∃o,snd1 m r k= {r with out:=o} ∧o.length≤r.out.length+1:=by
 unfold snd1
 split
 ·exact⟨r.out,rfl,Nat.le_succ _⟩
 ·exact⟨_,rfl,Z93⟩
theorem tellN_out (r:Rp Op): ∀j,∃o,tellN r j= {r with out:=o} ∧o.length≤r.out.length+j:=by
 intro j
 induction j with
 |zero=>exact⟨r.out,rfl,Nat.le_refl _⟩
 |succ j ih=>
  obtain⟨o,h1,h2⟩:=ih
  rw[tellN_succ,h1]
  obtain⟨o',h3,h4⟩:=snd1_out (mPrep {r with out:=o} j) {r with out:=o} j
  exact⟨o',h3,by have:o'.length≤o.length+1:=h4;omega⟩
theorem tell_any {i:Nat}{c:Lb}{r:Rp Op}(p:Nat)(w:World)(h:RV i c w p r)(hl:LI r)(hb: ∀k,k<r.n→r.hv.getD k 0≤r.ls):
 Calls Tryz.prog 42 #[.pointer (some ⟨p,0,none⟩)] w fun e w'=>e= .returned (.tuple #[])∧Mt (Gi i) i c w w' p (tell r):=by
 obtain⟨lv,hv,xv,sv,uv,hbp,hrp⟩:=h.ex
 have HH:=Lib.hid (And.intro h (And.intro hl hb))
 have hcs:=hbp
 unfold rpC at hcs
 have y0:=hcs.cell 0 rfl
 have y1:=hcs.cell 1 rfl
 have y2:=hcs.cell 2 rfl
 have y3:=hcs.cell 3 rfl
 have y4:=hcs.cell 4 rfl
 have y5:=hcs.cell 5 rfl
 have y6:=hcs.cell 6 rfl
 have y7:=hcs.cell 7 rfl
 have y8:=hcs.cell 8 rfl
 have y9:=hcs.cell 9 rfl
 have HP:=Lib.hid hbp
 clear hbp hrp hb h hl hcs
 go_enter Tryz.func42,Tryz.ntmps42
 go_upto_region 1 with fail
 obtain⟨w1,hw1⟩: ∃w1,w1=w.alloc (.cells #[.int .i64 (r.id:Int),.int .i64 (r.n:Int),.int .i64 (r.st:Int),.int .i64 (r.vw:Int),.int .i64 (r.nr:Int),.int .i64 (r.bs:Int),.int .i64 (r.td:Int),.int .i64 (r.cm:Int),.int .i64 (r.sb:Int),.int .i64 (r.ls:Int)] 39):=⟨_,rfl⟩
 obtain⟨b1,hb1⟩: ∃b1,b1=w.heap.size:=⟨_,rfl⟩
 have HB1:Hid (Below w.heap.size w w1):=Lib.hid Z41
 have HS1:Hid (Blk w1 b1 39 [.int .i64 (r.id:Int),.int .i64 (r.n:Int),.int .i64 (r.st:Int),.int .i64 (r.vw:Int),.int .i64 (r.nr:Int),.int .i64 (r.bs:Int),.int .i64 (r.td:Int),.int .i64 (r.cm:Int),.int .i64 (r.sb:Int),.int .i64 (r.ls:Int)]):=Lib.hid (by rw[hw1,hb1];exact Blk.new w 39 _)
 have HBN1:Hid (w.heap.size≤b1):=Lib.hid Z11
 rw[←hw1,←hb1]
 clear y0 y1 y2 y3 y4 y5 y6 y7 y8 y9 hw1 hb1
 have HP1:=Lib.hid (HP.out.below HB1.out HP.out.lt)
 have HAL:=Lib.hid (all_any p w1 HP1.out (by have:=HH.out.2.1.n;omega))
 go_wp2_with fail
 refine HAL.out.mono ?_
 rintro e w2 ⟨v2,rfl,ho2,hb2⟩
 obtain⟨a2,cp2,e2⟩:=(Rd.of_own ho2).slice
 subst e2
 have HB2:Hid (Below w.heap.size w w2):=Lib.hid (HB1.out.trans (hb2.mono HB1.out.size))
 have HV2:=Lib.hid (HH.out.1.below (c.ext_lx w) HB2.out)
 have HS2:=Lib.hid (HS1.out.below hb2 HS1.out.lt)
 have HO2:=Lib.hid (And.intro ho2 HB1.out.size)
 clear ho2 hb2 HAL
 go_wp2_with fail
 go_loopw [13] (fun k wr=> ∃j:Nat,k= .int .i64 (j:Int)∧j≤r.n∧ ∃c',Lx w2 (c.ext w.heap.size) c'∧Fr (Gi i) (c.ext w.heap.size) w2 wr∧RV i c' wr p (tellN r j)) (fun k _=>r.n-(intOf k).toNat)
 case atStart=>exact⟨0,rfl,Nat.zero_le _,_,Lx.refl _ _,Fr.refl _ _ _,HV2.out⟩
 case round=>
  obtain⟨j,rfl,hj,c',hx,hf,hrv⟩:=hrel
  by_cases hjn:j<r.n
  case neg=>
   have t1: ¬(j:Int)<(r.n:Int):=by omega
   have HD:Hid (Mt (Gi i) i c w wr p (tell r)):=Lib.hid (by
    rw[show j=r.n from Z11] at hrv
    exact Mt.trans (c.ext_lx w) (Fr.of_below HB2.out) ⟨c',hx,hf,hrv⟩)
   clear hx hf hrv
   exact Z36
  case pos=>
  have t1:(j:Int)<(r.n:Int):=by omega
  obtain⟨o,ho1,ho2⟩:=tellN_out r j
  have HQ:=Lib.hid (And.intro ho1 ho2)
  have HX:=Lib.hid (And.intro hx (And.intro hf hrv))
  obtain⟨g2,ea⟩: ∃g2,a2=some ⟨g2,0,none⟩:=by
   rcases HO2.out.1.2 with⟨_,h0⟩|⟨g,cap,cur,e,_⟩
   ·omega
   ·cases e;exact⟨g,rfl⟩
  subst ea
  have yk:wr.cell? ⟨g2,j,none⟩=some (.int .i64 (j:Int)):=by
   have h0:=HO2.out.1.cells (g:=g2) rfl j (.int .i64 (j:Int)) (by rw[List.getElem?_map,List.getElem?_range hjn];rfl)
   rw[Addr.add_lit,Nat.zero_add] at h0
   have h1:=HO2.out.1.lt g2 rfl
   have h3:=hf.block g2 h1.2 (by rw[Lb.ext_new c (by have:=HO2.out.2;omega)];exact Gi_1 i)
   simp only[World.cell?,h3] at h0⊢
   exact h0
  have hsr:Blk wr b1 39 [.int .i64 (r.id:Int),.int .i64 (r.n:Int),.int .i64 (r.st:Int),.int .i64 (r.vw:Int),.int .i64 (r.nr:Int),.int .i64 (r.bs:Int),.int .i64 (r.td:Int),.int .i64 (r.cm:Int),.int .i64 (r.sb:Int),.int .i64 (r.ls:Int)]:=(hf.block b1 HS2.out.lt (by rw[Lb.ext_new c HBN1.out];exact Gi_1 i)).trans HS2.out
  have HSR:=Lib.hid hsr
  obtain⟨lv1,hv1,xv1,sv1,uv1,hbp1,hrp1⟩:=hrv.ex
  rw[ho1] at hbp1 hrp1
  obtain⟨g,cap,eh,hgl,hgc⟩:=hrp1.hv.form (by have h1:=HH.out.2.1.hv;have h2:=HH.out.2.1.n;show 0<r.hv.length;omega)
  subst eh
  obtain⟨vs,hvi,hvo⟩:=hrp1.hv.ex
  obtain⟨x0,hx0⟩: ∃x,r.hv[j]?=some x:=⟨_,List.getElem?_eq_getElem (by have h1:=HH.out.2.1.hv;omega)⟩
  have hxd:r.hv.getD j 0=x0:=by rw[List.getD_eq_getElem?_getD,hx0];rfl
  have yh:wr.cell? ⟨g,j,none⟩=some (.int .i64 (x0:Int)):=by
   have h1:=hvo.cellAt j (by have h1:=HH.out.2.1.hv;show j<r.hv.length*1;omega)
   rw[h1,flat_nt _ vs hvi.1]
   show((ints r.hv).map _)[j]?=_
   exact Z128
  have y12:wr.cell? ⟨p,12,none⟩=some (.slice (some ⟨g,0,none⟩) r.hv.length cap):=hbp1.cell 12 rfl
  have z5:=hsr.cell 5 rfl
  have t2:(j:Int)<(r.hv.length:Int):=by have h1:=HH.out.2.1.hv;omega
  obtain⟨at_,hat⟩: ∃at_,at_=max r.bs x0:=⟨_,rfl⟩
  have hmx:max (r.bs:Int) (x0:Int)=(at_:Int):=by omega
  have HAT:=Lib.hid (And.intro hat hxd)
  have HP3:=Lib.hid hbp1
  have HR3:=Lib.hid hrp1
  clear hx hf hrv ho1 ho2 hsr hbp1 hrp1 hgl hgc hvi hvo hx0 hxd hat
  go_upto_region 4 with fail
  go_quiet (fail)
  go_wp2_with fail
  clear y12 z5 yk yh hmx
  have HP4:=Lib.hid (HP3.out.drewN nq)
  have HR4:Hid (RP i c' (wr.drewN nq) {r with out:=o} lv1 (.slice (some ⟨g,0,none⟩) r.hv.length cap) xv1 sv1 uv1):=Lib.hid (HR3.out.keep (Lx.refl _ _) fun _ _ _=>rfl)
  have HS4:=Lib.hid (HSR.out.drewN nq)
  have HX4:Hid (Lx w2 (c.ext w.heap.size) c'∧Fr (Gi i) (c.ext w.heap.size) w2 (wr.drewN nq)∧c' p=10+10*i):=Lib.hid ⟨HX.out.1,HX.out.2.1.trans HX.out.1 (Fr.of_below (below_drewN (Below.refl _ _) nq)),HX.out.2.2.lb⟩
  obtain⟨wq,hwq⟩: ∃wq,wq=wr.drewN nq:=⟨_,rfl⟩
  rw[←hwq] at HP4 HR4 HS4 HX4⊢
  clear HP3 HR3 HSR hwq
  obtain⟨la,lc,el⟩:=HR4.out.lg.slice
  subst el
  obtain⟨kk,hkk⟩: ∃kk,kk=at_-r.bs:=⟨_,rfl⟩
  have hkl:kk≤r.log.length:=by
   have h1:=HH.out.2.2 j hjn
   have h2:=HH.out.2.1.ls
   have h3:=HAT.out
   omega
  have hwr:IntKind.i64.wrap ((at_:Int)-(r.bs:Int))=(kk:Int):=by
   have h1:=HH.out.2.1.lo
   have h2:TM=1099511627776:=rfl
   have h3:=HAT.out
   exact Z197
  have HSL:=HR4.out.lg.sl.back (opE_ok 1) rfl kk hkl
  obtain⟨oa,hoa⟩: ∃oa,oa=(if lc=kk then la else la.map (·.add (kk*16))):=⟨_,rfl⟩
  rw[show(opE 1).sz=16 from rfl,←hoa] at HSL
  have hsl: ∀W,(Instr.slice 35 (.slice la r.log.length lc) (some (.int .i64 (kk:Int))) none none).run Tryz.prog W= .ok (.slice oa (r.log.length-kk) (lc-kk)) W:=fun W=>by
   rw[hoa]
   exact slice_int W 35 la r.log.length lc kk rfl (s:=16) Z27 hkl
  have hdl:(r.log.drop kk).length=r.log.length-kk:=List.length_drop
  have HSL':=Lib.hid HSL
  have HKK:=Lib.hid (And.intro hkk hdl)
  clear HSL hoa hkk hdl hkl
  refine wp_region_K (fun W=>Below wq.heap.size wq W∧W.cell? ⟨b1,5,none⟩=some (.int .i64 (r.bs:Int))∧W.cell? ⟨b1,7,none⟩=some (.int .i64 (r.cm:Int))∧W.cell? ⟨b1,8,none⟩=some (.int .i64 (r.sb:Int))∧W.cell? ⟨p,10,none⟩=some (.slice la r.log.length lc)) 18 Z27 ?_ (fun hHeld1=> ?_)
  ·exact⟨(Below.refl _ _).drew,HS4.out.cell 5 rfl,HS4.out.cell 7 rfl,HS4.out.cell 8 rfl,HP4.out.cell 10 rfl⟩
  refine tkK 0 ?_ (y:=Z1)
  try simp only[ap]
  refine tkK 1 ?_ (y:=Z1)
  try simp only[ap]
  refine tkK 2 ?_ (y:=Z1)
  try simp only[ap]
  refine tkK 3 ?_ (y:=Z1)
  try simp only[ap]
  refine tkK 4 ?_ (y:=Z1)
  try simp only[ap]
  refine tkK 5 ?_ (y:=Z1)
  try simp only[ap]
  refine tkK 6 ?_ (y:=Z1)
  try simp only[ap]
  refine tkK 7 ?_ (y:=Z1)
  try simp only[ap]
  refine tkK 8 ?_ (y:=Z1)
  try simp only[ap]
  refine tkK 9 ?_ (y:=Z1)
  try simp only[ap]
  refine tkK 10 ?_ (y:=Z1)
  try simp only[ap]
  refine tkK 11 ?_ (y:=Z1)
  try simp only[ap]
  refine tkK 12 ?_ (y:=Z1)
  try simp only[ap]
  refine tkK 13 ?_ (y:=Z1)
  try simp only[ap]
  refine tkK 14 ?_ (y:=Z1)
  try simp only[ap]
  refine tkK 15 ?_ (y:=Z1)
  try simp only[ap]
  refine tkK 16 ?_ (y:=Z1)
  try simp only[ap]
  refine wpAnyK_ready (rs:= [17]) Z27 Z93 ?_
  refine AllReadyK.cons (o:= ?oi18) ?hi18 (fun K hK=> ?hs18) AllReadyK.nil
  case hi18=>exact Z20
  go_simp
  have HB5:=Lib.hid ((Below.refl wq.heap.size wq).drew.alloc (Nat.le_refl _) (.cells #[.int .i64 (j:Int)] 3))
  refine hK.out _ _ ?_ (fun hHeld3=> ?_)
  ·exact⟨HB5.out,(HS4.out.below HB5.out HS4.out.lt).cell 5 rfl,(HS4.out.below HB5.out HS4.out.lt).cell 7 rfl,(HS4.out.below HB5.out HS4.out.lt).cell 8 rfl,(HP4.out.below HB5.out HP4.out.lt).cell 10 rfl⟩
  clear hK
  try simp only[ap]
  refine wpAnyK_lasts [] Z27 Z31 Z31 ?_
  simp only[List.filterMap_cons,List.filterMap_nil,List.getElem?_toArray,List.getElem?_cons_succ,List.getElem?_cons_zero]
  have hrv4:RV i c' wq p {r with out:=o}:=⟨HX4.out.2.2,_,_,_,_,_,HP4.out,HR4.out⟩
  have HS:=Lib.hid (send_one (i:=i) (c:=c') (r:= {r with out:=o}) (lo:=11+10*i) (mPrep {r with out:=o} j) j (.slice oa (r.log.length-kk) (lc-kk)) p wq.drew hrv4.drew (by
   have h1:(mPrep {r with out:=o} j).ops=r.log.drop kk:=by
    exact Z151
   rw[h1]
   exact HSL'.out.keep (opE_ok 1) (Lx.refl _ _) fun _ _ _=>rfl) (Gi_11 i) (by
   have h1:(mPrep {r with out:=o} j).ops=r.log.drop kk:=by
    exact Z151
   rw[h1,HKK.out.2]
   have:=HH.out.2.1.lo.1
   omega) (by have h1:=HQ.out.2;have h2:=HH.out.2.1.ou;have h3:=HH.out.2.1.n;show o.length≤_;omega))
  have hat2:max r.bs (r.hv.getD j 0)=at_:=by rw[HAT.out.2,←HAT.out.1]
  unfold mPrep msV at HS
  simp only[hat2] at HS
  clear hrv4 hat2 hHeld1 hHeld3 hwr hsl
  have HT:Hid (tellN r (j+1)=snd1 ⟨1,0,0,0,at_,r.log.drop (at_-r.bs),r.cm,r.sb,0⟩ {r with out:=o} j):=Lib.hid (by
   rw[tellN_succ,HQ.out.1]
   unfold mPrep
   simp only[HAT.out.2,←HAT.out.1])
  refine wpList_step fun K hK0=> ?_
  have hK:=Lib.hid hK0
  clear hK0
  rw[if_pos Z31]
  go_simp
  refine HS.out.mono ?_
  rintro e w6 ⟨rfl,hm⟩
  have HM:=Lib.hid (Mt.undrew hm)
  clear hm
  go_wp2_with fail
  refine hK.out _ _ ?_
  clear hK
  try simp only[ap]
  have HN:Hid (∃c',Lx w2 (c.ext w.heap.size) c'∧Fr (Gi i) (c.ext w.heap.size) w2 w6∧RV i c' w6 p (tellN r (j+1))):=Lib.hid (by
   obtain⟨c6,h1,h2,h3⟩:=HM.out
   refine⟨c6,HX4.out.1.trans h1 HX4.out.2.1.size,HX4.out.2.1.trans HX4.out.1 h2,?_⟩
   rw[HT.out]
   exact h3)
  have hn9:r.n≤7:=HH.out.2.1.n.2
  clear HS
  exact Z180
end Go.Proofs.YtdmjegelcdghlaaGreat.Vw
