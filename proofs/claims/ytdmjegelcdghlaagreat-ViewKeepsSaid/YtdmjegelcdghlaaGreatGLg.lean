/-
  Chapter 22: the chapter's examples.
-/
import Derived.Test.YtdmjegelcdghlaaGreatGDb
import Derived.Test.YtdmjegelcdghlaaGreatGKm
import Derived.Test.YtdmjegelcdghlaaGreatGKh
import Derived.Test.YtdmjegelcdghlaaGreatGDj
import Derived.Test.YtdmjegelcdghlaaGreatGDs
set_option maxRecDepth 100000
set_option maxHeartbeats 64000000
set_option linter.unusedVariables false
set_option linter.unusedSimpArgs false
namespace Go.Proofs.YtdmjegelcdghlaaGreat.Vw
open Go.RowKit Go.Maps
theorem cell_eqK {w w':World}{b:Nat}(h:w'.heap[b]?=w.heap[b]?)(o:Nat):w'.cell? ⟨b,o,none⟩=w.cell? ⟨b,o,none⟩:=by
 simp only[World.cell?,h]
theorem mayO_op0:mayO op0=true:=by decide+kernel
theorem tx_op0 (li:Nat)(c:Lb)(W:World):TxA li c W (.slice none 0 0) op0:=
 ⟨⟨Rd.nil _ _,fun x hx=>by cases hx⟩,fun h=>absurd h Z37,⟨Z37,Z37,Z37,Z37,Z37,Z37,Z37,Z37⟩,fun _ h=>absurd h Z37⟩
structure KW (c:Lb)(w W:World):Prop where
 lx:Lx w (fun _=>0) c
 b:Below w.heap.size w W
theorem KW.refl (w:World):KW (fun _=>0) w w:=⟨Lx.refl _ _,Below.refl _ _⟩
theorem KW.fr {i:Nat}{c c':Lb}{w W W':World}(h:KW c w W)(hx:Lx W c c')(hf:Fr (Fi i) c W W'):KW c' w W':=
 ⟨h.lx.trans hx h.b.size,h.b.trans (hf.below h.b.size fun j hj e=>by rw[h.lx j hj] at e;have e2:Fi i 0:=e;unfold Fi at e2;omega)⟩
theorem KW.below {c c':Lb}{w W W':World}(h:KW c w W)(hx:Lx W c c')(hb:Below W.heap.size W W'):KW c' w W':=
 ⟨h.lx.trans hx h.b.size,h.b.trans (hb.mono h.b.size)⟩
theorem RV.other {i j:Nat}{c c':Lb}{W W':World}{p:Nat}{r:Rp Op}(h:RV i c W p r)(hx:Lx W c c')(hf:Fr (Fi j) c W W')(hne:i≠j):RV i c' W' p r:=
 h.keep hx fun k hk hl=>hf.block k hk fun e=>by unfold Fi at e;omega
theorem li_new (id n:Nat)(h:1≤n∧n≤7∧id<n):LI (newR id n:Rp Op):=
 ⟨⟨h.1,h.2.1⟩,h.2.2,Nat.zero_le _,Nat.le_refl _,⟨Nat.le_refl _,Nat.le_refl _,Nat.le_refl _,Nat.le_refl _⟩,rfl,⟨Nat.zero_le _,Nat.zero_le _⟩,List.length_replicate,Nat.zero_le _,Nat.zero_le _⟩
theorem hb_new (id n:Nat):HB (newR id n:Rp Op):=fun k hk=>by
 have hk':k<n:=hk
 show(List.replicate n 0).getD k 0≤0
 simp[List.getD,hk']
theorem li_k1:LI (kR1 op0):=⟨Z37,Z37,Z37,Z37,Z37,Z37,Z37,Z37,Z37,Z37⟩
theorem tb_b:TB (newR 1 3) (kM1 op0):=
 ⟨li_new 1 3 Z37,fun _=>hb_new 1 3,fun k o h=>(by cases h),⟨Z37,Z37,Z37,fun _=>Z37⟩,kMay1 mayO op0 mayO_op0,Z37,Z37⟩
theorem tb_a:TB {kA1 op0 with out:= [] } (kM2 op0):=
 ⟨⟨Z37,Z37,Z37,Z37,Z37,Z37,Z37,Z37,Z37,Z37⟩,fun _ k hk=>by
  have hk':k<3:=hk
  rcases(by omega:k=0∨k=1∨k=2) with e|e|e<;>subst e<;>decide,fun k o h=>(by cases h),⟨Z37,Z37,Z37,fun _=>Z37⟩,kMay2 mayO op0,Z37,Z37⟩
theorem field_std7 (a0 a1 a2 a3 a4 a5 a6 a7 a8 a9:Value)(W:World):(Instr.field 39 (.agg #[a0,a1,a2,a3,a4,a5,a6,a7,a8,a9]) 7).run Tryz.prog W= .ok a7 W:=by kernel_rfl
abbrev KS (c:Lb)(w W:World)(p pa pb sg:Nat)(rr ra rb:Rp Op):Prop:=KW c w W∧RV 0 c W p rr∧W.cell? ⟨sg,0,none⟩=some (.bool true)∧sg<W.heap.size∧c sg=14∧RV 1 c W pa ra∧RV 2 c W pb rb
theorem KS.below {c:Lb}{w W W':World}{p pa pb sg:Nat}{rr ra rb:Rp Op}(h:KS c w W p pa pb sg rr ra rb)(hb:Below W.heap.size W W'):KS c w W' p pa pb sg rr ra rb:=
 ⟨h.1.below (Lx.refl _ _) hb,h.2.1.below (Lx.refl _ _) hb,(cell_eqK (hb.block sg h.2.2.2.1) _).trans h.2.2.1,Nat.lt_of_lt_of_le h.2.2.2.1 hb.size,h.2.2.2.2.1,h.2.2.2.2.2.1.below (Lx.refl _ _) hb,h.2.2.2.2.2.2.below (Lx.refl _ _) hb⟩
theorem KS.a {c c':Lb}{w W W':World}{p pa pb sg:Nat}{rr ra rb ra':Rp Op}(h:KS c w W p pa pb sg rr ra rb)(hx:Lx W c c')(hf:Fr (Fi 1) c W W')(hr:RV 1 c' W' pa ra'):KS c' w W' p pa pb sg rr ra' rb:=
 ⟨h.1.fr hx hf,h.2.1.other hx hf Z37,(cell_eqK (hf.block sg h.2.2.2.1 (by rw[h.2.2.2.2.1];unfold Fi;omega)) _).trans h.2.2.1,Nat.lt_of_lt_of_le h.2.2.2.1 hf.size,(hx sg h.2.2.2.1).trans h.2.2.2.2.1,hr,h.2.2.2.2.2.2.other hx hf Z37⟩
theorem KS.b {c c':Lb}{w W W':World}{p pa pb sg:Nat}{rr ra rb rb':Rp Op}(h:KS c w W p pa pb sg rr ra rb)(hx:Lx W c c')(hf:Fr (Fi 2) c W W')(hr:RV 2 c' W' pb rb'):KS c' w W' p pa pb sg rr ra rb':=
 ⟨h.1.fr hx hf,h.2.1.other hx hf Z37,(cell_eqK (hf.block sg h.2.2.2.1 (by rw[h.2.2.2.2.1];unfold Fi;omega)) _).trans h.2.2.1,Nat.lt_of_lt_of_le h.2.2.2.1 hf.size,(hx sg h.2.2.2.1).trans h.2.2.2.2.1,h.2.2.2.2.2.1.other hx hf Z37,hr⟩
theorem kSave1:(told (kR1 op0)).saves= [⟨true,0,0,[op0],0⟩]:=by kernel_rfl
theorem kOut1:({told (kR1 op0) with saves:= [] }:Rp Op).out= []:=by kernel_rfl
theorem known_any (w:World):Calls Tryz.prog 12 #[] w fun e w'=>e= .returned (.bool true)∧Below w.heap.size w w':=by
 have HN1:=Lib.hid (new_any 0 (fun _=>0) 0 1 w Z37)
 go_enter Tryz.func12,Tryz.ntmps12
 go_wp2_with fail
 refine HN1.out.mono ?_
 rintro e w1 ⟨p,rfl,hp,hb1,c1,hx1,hr1⟩
 have HK1:=Lib.hid (And.intro ((KW.refl w).below hx1 hb1) hr1)
 clear HN1 hp hb1 hx1 hr1
 have HC:=Lib.hid (command_any w1)
 go_wp2_with fail
 refine HC.out.mono ?_
 rintro e w2 ⟨rfl,hb2⟩
 have HK2:=Lib.hid (And.intro (HK1.out.1.below (Lx.refl _ _) hb2) (HK1.out.2.below (Lx.refl _ _) hb2))
 clear HC HK1 hb2
 have ha:=ask_any (i:=0) (li:=1) op0 (.slice none 0 0) p w2 HK2.out.2 (li_new 0 1 Z37) (fun _=>hb_new 0 1) (tx_op0 1 c1 w2) (Nat.zero_le _)
 rw[kAsk1 mayO op0 mayO_op0,if_pos rfl,if_pos rfl,kR1_eq,show(((newR 0 1:Rp Op).ls+1:Nat):Int)=1 from rfl,show((0:Nat):Int)=0 from rfl] at ha
 have HA:=Lib.hid ha
 clear ha
 go_wp2_with fail
 refine HA.out.mono ?_
 rintro e w3 ⟨rfl,c3,hx3,hf3,hr3⟩
 have HK3:=Lib.hid (And.intro (HK2.out.1.fr hx3 hf3) hr3)
 clear HA HK2 hx3 hf3 hr3
 have HR:=Lib.hid (ready_any (i:=0) p w3 HK3.out.2 li_k1)
 go_wp2_with fail
 refine HR.out.mono ?_
 rintro e w4 ⟨lv,rfl,c4,hx4,hf4,hr4,hs4⟩
 obtain⟨la,lc,el⟩:=hs4.slice
 rw[kReady,List.length_singleton] at el
 subst el
 have HK4:=Lib.hid (And.intro (HK3.out.1.fr hx4 hf4) hr4)
 clear HR HK3 hx4 hf4 hr4 hs4
 have HS:=Lib.hid (saves_any (i:=0) p w4 HK4.out.2)
 go_wp2_with fail
 refine HS.out.mono ?_
 rintro e w5 ⟨sv,rfl,hrow5,hps5,hr5⟩
 rw[kSave1] at hrow5
 obtain⟨sg,sc,esv,hsg,hcg⟩:=hrow5.form Z37
 obtain⟨sb,so,scc,su,esv2,hsin,hsc⟩:=hrow5.sl.get (svE_ok 2) (i:=0) rfl
 rw[esv] at esv2
 have esb:=esv2
 simp only[Value.slice.injEq,Option.some.injEq,Addr.mk.injEq,and_true] at esb
 obtain⟨⟨rfl,rfl⟩,_,_⟩:=esb
 subst esv
 have hsv:=hsc 0 (.bool true) rfl
 have HK5:=Lib.hid (And.intro (HK4.out.1.fr (i:=0) (Lx.refl _ _) (hps5.fr (show Fi 0 (c4 p) by rw[HK4.out.2.lb];unfold Fi;omega))) (And.intro hr5 (And.intro hsv (And.intro hsg hcg))))
 clear HS HK4 hrow5 hps5 hr5 hsc hsin esv2 hsv hsg hcg
 have HN2:=Lib.hid (new_any 1 c4 0 3 w5 Z37)
 go_wp2_with fail
 refine HN2.out.mono ?_
 rintro e w6 ⟨pa,rfl,hp,hb6,c6,hx6,hr6⟩
 have HK6:=Lib.hid (And.intro (HK5.out.1.below hx6 hb6) (And.intro (HK5.out.2.1.below hx6 hb6) (And.intro ((cell_eqK (hb6.block sg HK5.out.2.2.2.1) _).trans HK5.out.2.2.1) (And.intro (Nat.lt_of_lt_of_le HK5.out.2.2.2.1 hb6.size) (And.intro ((hx6 sg HK5.out.2.2.2.1).trans HK5.out.2.2.2.2) hr6)))))
 clear HN2 HK5 hp hb6 hx6 hr6
 have HN3:=Lib.hid (new_any 2 c6 1 3 w6 Z37)
 go_wp2_with fail
 refine HN3.out.mono ?_
 rintro e w7 ⟨pb,rfl,hp,hb7,c7,hx7,hr7⟩
 have HK7:=Lib.hid (And.intro (HK6.out.1.below hx7 hb7) (And.intro (HK6.out.2.1.below hx7 hb7) (And.intro ((cell_eqK (hb7.block sg HK6.out.2.2.2.1) _).trans HK6.out.2.2.1) (And.intro (Nat.lt_of_lt_of_le HK6.out.2.2.2.1 hb7.size) (And.intro ((hx7 sg HK6.out.2.2.2.1).trans HK6.out.2.2.2.2.1) (And.intro (HK6.out.2.2.2.2.2.below hx7 hb7) hr7))))))
 clear HN3 HK6 hp hb7 hx7 hr7
 have HC:=Lib.hid (command_any w7)
 go_wp2_with fail
 refine HC.out.mono ?_
 rintro e w8 ⟨rfl,hb8⟩
 have HK8:=Lib.hid (KS.below HK7.out hb8)
 clear HC HK7 hb8
 have ha:=ask_any (i:=1) (li:=1) op0 (.slice none 0 0) pa w8 HK8.out.2.2.2.2.2.1 (li_new 0 3 Z37) (fun _=>hb_new 0 3) (tx_op0 1 c7 w8) (Nat.zero_le _)
 rw[kAsk3 mayO op0 mayO_op0,if_pos rfl,if_pos rfl,kA1_eq] at ha
 have HA:=Lib.hid ha
 clear ha
 go_wp2_with fail
 refine HA.out.mono ?_
 rintro e w9 ⟨rfl,c9,hx9,hf9,hr9⟩
 have HK9:=Lib.hid (KS.a HK8.out hx9 hf9 hr9)
 clear HA HK8 hx9 hf9 hr9
 have HO:=Lib.hid (out_any (i:=1) pa w9 HK9.out.2.2.2.2.2.1)
 go_wp2_with fail
 refine HO.out.mono ?_
 rintro e w10 ⟨ov,rfl,hrow,hps,hr10⟩
 have hlo:(kA1 op0).out= [⟨1,kM1 op0⟩,⟨2,kM1 op0⟩]:=rfl
 rw[hlo] at hrow
 obtain⟨ob,oc,eov,hog,hoc⟩:=hrow.form Z37
 rw[show([⟨1,kM1 op0⟩,⟨2,kM1 op0⟩]:List (Sd Op)).length=2 from rfl] at eov
 subst eov
 have HK10:=Lib.hid (And.intro (KS.a HK9.out (Lx.refl _ _) (hps.fr (show Fi 1 (c9 pa) by rw[HK9.out.2.2.2.2.2.1.lb];unfold Fi;omega)) hr10) hrow)
 clear HO HK9 hps hr10 hrow hog hoc hlo
 go_wp2_with fail
 have HM1:Hid (∃ua uc ua2 uc2,SlR (opE 3) c9 3 w10 (.slice ua 1 uc) [op0]∧(∀(j:Nat) x,([.int .i64 1,.int .i64 1,.int .i64 0,.int .i64 0,.int .i64 0,.int .i64 0,.slice ua 1 uc,.int .i64 0,.int .i64 0,.int .i64 0]:List Value)[j]?=some x→w10.cell? ⟨ob,j,none⟩=some x)∧(∀(j:Nat) x,([.int .i64 2,.int .i64 1,.int .i64 0,.int .i64 0,.int .i64 0,.int .i64 0,.slice ua2 1 uc2,.int .i64 0,.int .i64 0,.int .i64 0]:List Value)[j]?=some x→w10.cell? ⟨ob,10+j,none⟩=some x)∧ob<w10.heap.size∧c9 ob=25):=Lib.hid (by
  have hrow:=HK10.out.2
  obtain⟨g0,c0,e0,hl0,hc0⟩:=hrow.form Z37
  obtain⟨g1,o1,c1,u1,e1,h1,h2⟩:=hrow.sl.get (sdE_ok 3) (i:=0) rfl
  obtain⟨g2,o2,c2,u2,e2,h3,h4⟩:=hrow.sl.get (sdE_ok 3) (i:=1) rfl
  cases e0
  cases e1
  cases e2
  obtain⟨ua,uc,eu⟩:=(SdI.s h1).slice
  obtain⟨ua2,uc2,eu2⟩:=(SdI.s h3).slice
  subst eu
  subst eu2
  refine⟨ua,uc,ua2,uc2,SdI.s h1,fun j x hx=> ?_,fun j x hx=> ?_,hl0,hc0⟩
  ·have:=h2 j x hx
   rwa[show 0+0*(sdE 3).sz+j=j by simp] at this
  ·exact h4 j x hx)
 go_loopw [48] (fun iv wr=> ∃k:Nat,iv= .int .i64 (k:Int)∧((k=0∧wr=w10)∨(k=1∧ ∃c ua2 uc2,KS c w wr p pa pb sg {told (kR1 op0) with saves:= [] } {kA1 op0 with out:= [] } (kB1 op0)∧ ∀(j:Nat) x,([.int .i64 2,.int .i64 1,.int .i64 0,.int .i64 0,.int .i64 0,.int .i64 0,.slice ua2 1 uc2,.int .i64 0,.int .i64 0,.int .i64 0]:List Value)[j]?=some x→wr.cell? ⟨ob,10+j,none⟩=some x)∨(k=2∧ ∃c,KS c w wr p pa pb sg {told (kR1 op0) with saves:= [] } {kA1 op0 with out:= [] } (kB1 op0)))) (fun iv _=>2-(intOf iv).toNat)
 case atStart=>exact⟨0,rfl,.inl ⟨rfl,rfl⟩⟩
 case round=>
  obtain⟨k,rfl,hk⟩:=hrel
  rcases hk with⟨rfl,hw⟩|⟨rfl,c,ua2,uc2,hks,hc2⟩|⟨rfl,c,hks⟩
  ·subst hw
   obtain⟨ua,uc,ua2,uc2,hs,hc,hc2,hob,hcob⟩:=HM1.out
   have z0:=hc 0 _ rfl
   have z1:=hc 1 _ rfl
   have z2:=hc 2 _ rfl
   have z3:=hc 3 _ rfl
   have z4:=hc 4 _ rfl
   have z5:=hc 5 _ rfl
   have z6:=hc 6 _ rfl
   have z7:=hc 7 _ rfl
   have z8:=hc 8 _ rfl
   have z9:=hc 9 _ rfl
   obtain⟨wB,hwB⟩: ∃wB,wB=wr.alloc (.cells #[.int .i64 1,.int .i64 1,.int .i64 0,.int .i64 0,.int .i64 0,.int .i64 0,.slice ua 1 uc,.int .i64 0,.int .i64 0,.int .i64 0] 53):=⟨_,rfl⟩
   have hbB:Below wr.heap.size wr wB:=by rw[hwB];exact(Below.refl _ _).alloc (Nat.le_refl _) _
   have HKB:=Lib.hid (KS.below HK10.out.1 hbB)
   have HTK:Hid (Calls Tryz.prog 13 #[.pointer (some ⟨pb,0,none⟩),.agg #[.int .i64 1,.int .i64 0,.int .i64 0,.int .i64 0,.int .i64 0,.slice ua 1 uc,.int .i64 0,.int .i64 0,.int .i64 0]] wB fun e w'=>e= .returned (.int .i64 0)∧Mt (Fi 2) 2 c9 wB w' pb (kB1 op0)):=Lib.hid (by
    have h:=take_any (i:=2) (kM1 op0) (.slice ua 1 uc) pb wB HKB.out.2.2.2.2.2.2 (hs.below (opE_ok 3) hbB) ⟨fun h=>by have h9:10+10*2≤3∧3≤15+10*2:=h;omega,fun h=>by have h9:10+10*2≤3∧3≤15+10*2:=h;omega⟩ tb_b
    rw[kB1_eq] at h
    exact h)
   have HC2:=Lib.hid (And.intro hc2 (And.intro hob (And.intro hcob (And.intro hbB hwB))))
   clear hs hc hc2 hob hcob hbB hwB
   go_wp2_with fail
   rw[←HC2.out.2.2.2.2]
   refine HTK.out.mono ?_
   rintro e w12 ⟨rfl,c12,hx12,hf12,hr12⟩
   have HN:Hid (∃c ua2 uc2,KS c w w12 p pa pb sg {told (kR1 op0) with saves:= [] } {kA1 op0 with out:= [] } (kB1 op0)∧ ∀(j:Nat) x,([.int .i64 2,.int .i64 1,.int .i64 0,.int .i64 0,.int .i64 0,.int .i64 0,.slice ua2 1 uc2,.int .i64 0,.int .i64 0,.int .i64 0]:List Value)[j]?=some x→w12.cell? ⟨ob,10+j,none⟩=some x):=Lib.hid
    ⟨c12,ua2,uc2,KS.b HKB.out hx12 hf12 hr12,fun j x hx=>(cell_eqK ((hf12.block ob (Nat.lt_of_lt_of_le HC2.out.2.1 HC2.out.2.2.2.1.size) (by rw[HC2.out.2.2.1];unfold Fi;omega)).trans (HC2.out.2.2.2.1.block ob HC2.out.2.1)) _).trans (HC2.out.1 j x hx)⟩
   clear hx12 hf12 hr12 HTK HKB HC2 z0 z1 z2 z3 z4 z5 z6 z7 z8 z9
   go_wp2_with fail
   exact⟨⟨1,rfl,.inr (.inl ⟨rfl,HN.out⟩)⟩,by simp[intOf]⟩
  ·have HKB:=Lib.hid hks
   have z0:=hc2 0 _ rfl
   have z1:=hc2 1 _ rfl
   have z2:=hc2 2 _ rfl
   have z3:=hc2 3 _ rfl
   have z4:=hc2 4 _ rfl
   have z5:=hc2 5 _ rfl
   have z6:=hc2 6 _ rfl
   have z7:=hc2 7 _ rfl
   have z8:=hc2 8 _ rfl
   have z9:=hc2 9 _ rfl
   clear hks hc2
   go_wp2_with fail
   exact⟨⟨2,rfl,.inr (.inr ⟨rfl,c,KS.below HKB.out ((Below.refl _ _).alloc (Nat.le_refl _) _)⟩)⟩,by simp[intOf]⟩
  ·have HKB:=Lib.hid hks
   clear hks HM1 HK10
   have HO:=Lib.hid (out_any (i:=2) pb wr HKB.out.2.2.2.2.2.2)
   go_wp2_with fail
   refine HO.out.mono ?_
   rintro e w13 ⟨ov,rfl,hrow,hps,hr13⟩
   have hlo:(kB1 op0).out= [⟨0,kM2 op0⟩]:=rfl
   rw[hlo] at hrow
   obtain⟨o2,q2,eov,hog,hoc⟩:=hrow.form Z37
   rw[show([⟨0,kM2 op0⟩]:List (Sd Op)).length=1 from rfl] at eov
   subst eov
   obtain⟨g1,of1,cp1,u1,e1,h1,h2⟩:=hrow.sl.get (sdE_ok 3) (i:=0) rfl
   cases e1
   obtain⟨ua,uc,eu⟩:=(SdI.s h1).slice
   subst eu
   have HK13:=Lib.hid (And.intro (KS.b HKB.out (Lx.refl _ _) (hps.fr (show Fi 2 (c pb) by rw[HKB.out.2.2.2.2.2.2.lb];unfold Fi;omega)) hr13) (SdI.s h1))
   have z0:w13.cell? ⟨o2,0,none⟩=some (.int .i64 0):=h2 0 _ rfl
   have z1:w13.cell? ⟨o2,1,none⟩=some (.int .i64 2):=h2 1 _ rfl
   have z2:w13.cell? ⟨o2,2,none⟩=some (.int .i64 1):=h2 2 _ rfl
   have z3:w13.cell? ⟨o2,3,none⟩=some (.int .i64 0):=h2 3 _ rfl
   have z4:w13.cell? ⟨o2,4,none⟩=some (.int .i64 0):=h2 4 _ rfl
   have z5:w13.cell? ⟨o2,5,none⟩=some (.int .i64 0):=h2 5 _ rfl
   have z6:w13.cell? ⟨o2,6,none⟩=some (.slice ua 0 uc):=h2 6 _ rfl
   have z7:w13.cell? ⟨o2,7,none⟩=some (.int .i64 0):=h2 7 _ rfl
   have z8:w13.cell? ⟨o2,8,none⟩=some (.int .i64 0):=h2 8 _ rfl
   have z9:w13.cell? ⟨o2,9,none⟩=some (.int .i64 1):=h2 9 _ rfl
   clear HO HKB hrow hps hr13 hlo hog hoc h1 h2
   have HTK:Hid (Calls Tryz.prog 13 #[.pointer (some ⟨pa,0,none⟩),.agg #[.int .i64 2,.int .i64 1,.int .i64 0,.int .i64 0,.int .i64 0,.slice ua 0 uc,.int .i64 0,.int .i64 0,.int .i64 1]] w13 fun e w'=>e= .returned (.int .i64 0)∧Mt (Fi 1) 1 c w13 w' pa (kA2 op0)):=Lib.hid (by
    have h:=take_any (i:=1) (kM2 op0) (.slice ua 0 uc) pa w13 HK13.out.1.2.2.2.2.2.1 HK13.out.2 ⟨fun h=>by have h9:10+10*1≤3∧3≤15+10*1:=h;omega,fun h=>by have h9:10+10*1≤3∧3≤15+10*1:=h;omega⟩ tb_a
    rw[kA2_eq] at h
    exact h)
   go_wp2_with fail
   refine HTK.out.mono ?_
   rintro e w14 ⟨rfl,c14,hx14,hf14,hr14⟩
   have HK14:=Lib.hid (KS.a HK13.out.1 hx14 hf14 hr14)
   clear HTK HK13 hx14 hf14 hr14 z0 z1 z2 z3 z4 z5 z6 z7 z8 z9
   have y0:=HK14.out.2.2.1
   have HO:=Lib.hid (out_any (i:=0) p w14 HK14.out.2.1)
   go_wp2_with fail
   refine HO.out.mono ?_
   rintro e w15 ⟨ov,rfl,hrow,hps,hr15⟩
   obtain⟨ra,rc,er⟩:=hrow.slice
   rw[kOut1] at er
   subst er
   have HB15:=Lib.hid (HK14.out.1.b.trans ((hps.fr (c:=c14) (F:=Fi 0) (show Fi 0 (c14 p) by rw[HK14.out.2.1.lb];unfold Fi;omega)).below HK14.out.1.b.size fun j hj e=>by rw[HK14.out.1.lx j hj] at e;have e2:Fi 0 0:=e;unfold Fi at e2;omega))
   have HST:Hid (Calls Tryz.prog 15 #[.pointer (some ⟨pa,0,none⟩)] w15 fun e w'=>e= .returned (.agg #[.int .i64 0,.int .i64 3,.int .i64 0,.int .i64 0,.int .i64 0,.int .i64 0,.int .i64 0,.int .i64 1,.int .i64 0,.int .i64 1])∧Below w15.heap.size w15 w'):=Lib.hid (stand_any (i:=1) pa w15 (HK14.out.2.2.2.2.2.1.other (Lx.refl _ _) (hps.fr (F:=Fi 0) (show Fi 0 (c14 p) by rw[HK14.out.2.1.lb];unfold Fi;omega)) Z37))
   clear HO HK14 hrow hps hr15 y0
   go_wp2_with fail
   refine HST.out.mono ?_
   rintro e w16 ⟨rfl,hb16⟩
   have HB16:=Lib.hid (HB15.out.trans (hb16.mono HB15.out.size))
   clear HST hb16
   have hfld:=fun W=>field_std7 (.int .i64 0) (.int .i64 3) (.int .i64 0) (.int .i64 0) (.int .i64 0) (.int .i64 0) (.int .i64 0) (.int .i64 1) (.int .i64 0) (.int .i64 1) W
   go_wp2_with fail
   go_ret
   exact⟨rfl,HB16.out⟩
end Go.Proofs.YtdmjegelcdghlaaGreat.Vw
