/-
  Chapter 17: grant.May, exact. Printed by gen_grant_may.py.
-/
import Derived.BigRegion
import Derived.RegionTactic
import Derived.BigGuardPart
import Derived.BigCall
import Derived.Test.YtdmjegelcdghlaaGreatGRb
set_option maxRecDepth 100000
set_option maxHeartbeats 64000000
set_option linter.unusedVariables false
set_option linter.unusedSimpArgs false
namespace Go.Proofs.YtdmjegelcdghlaaGreat
theorem Z182 {p:Prop}(h:p:=by
 have e1:((0:Int)==edg)=false:=by rw[beq_eq_false_iff_ne];exact fun e=>z12 e.symm
 have e2:((0:Int) !=edg)=true:=by simp[bne,e1]
 exact Z2):p:=h
theorem Z179 {p:Prop}(h:p:=by
 have e1:((0:Int)==ser)=false:=by rw[beq_eq_false_iff_ne];exact fun e=>z2 e.symm
 have e2:((0:Int) !=ser)=true:=by simp[bne,e1]
 have c0:=HM6.out.z.cell 0 rfl
 have c2:=HM6.out.z.cell 2 rfl
 have r0:=HM6.out.r.cell 0 rfl
 have r2:=HM6.out.r.cell 2 rfl
 exact Z21):p:=h
theorem Z173 {p:Prop}(h:p:=by
 have e1:((0:Int)==tok)=false:=by rw[beq_eq_false_iff_ne];exact fun e=>z3 e.symm
 have e2:((0:Int) !=tok)=true:=by simp[bne,e1]
 have c0:=HM6.out.z.cell 0 rfl
 have c2:=HM6.out.z.cell 2 rfl
 have c3:=HM6.out.z.cell 3 rfl
 have r0:=HM6.out.r.cell 0 rfl
 have r2:=HM6.out.r.cell 2 rfl
 have r3:=HM6.out.r.cell 3 rfl
 exact Z21):p:=h
theorem Z160 {p:Prop}(h:p:=by
 have e1:rf=true:=by simpa using z11
 subst e1
 have c0:=HM6.out.z.cell 0 rfl
 have c2:=HM6.out.z.cell 2 rfl
 have c3:=HM6.out.z.cell 3 rfl
 have c4:=HM6.out.z.cell 4 rfl
 have c5:=HM6.out.z.cell 5 rfl
 have c7:=HM6.out.z.cell 7 rfl
 have c8:=HM6.out.z.cell 8 rfl
 have c9:=HM6.out.z.cell 9 rfl
 have c10:=HM6.out.z.cell 10 rfl
 have c11:=HM6.out.z.cell 11 rfl
 have r0:=HM6.out.r.cell 0 rfl
 have r2:=HM6.out.r.cell 2 rfl
 have r3:=HM6.out.r.cell 3 rfl
 have r4:=HM6.out.r.cell 4 rfl
 have r5:=HM6.out.r.cell 5 rfl
 have r7:=HM6.out.r.cell 7 rfl
 have r8:=HM6.out.r.cell 8 rfl
 have r9:=HM6.out.r.cell 9 rfl
 have r10:=HM6.out.r.cell 10 rfl
 have r11:=HM6.out.r.cell 11 rfl
 exact Z21):p:=h
theorem Z157 {p:Prop}(h:p:=by unfold odd;simp[z3]):p:=h
theorem Z126 {p:Prop}(h:p:=by unfold odd;simp[z10]):p:=h
theorem Z125 {p:Prop}(h:p:=by unfold odd;simp[z11]):p:=h
theorem Z124 {p:Prop}(h:p:=by unfold odd;simp[z12]):p:=h
theorem Z109 {p:Prop}(h:p:=by unfold mayC;simp[h1]):p:=h
theorem Z108 {p:Prop}(h:p:=by unfold mayC;simp[h2]):p:=h
theorem Z87 {p:Prop}(h:p:=by unfold mayC;simp[tooC,h3]):p:=h
theorem Z62 {p:Prop}(h:p:=by have:=HC.out.sco;simp only at this;omega):p:=h
theorem Z21 {p:Prop}(h:p:=by
 go_wp2_with fail
 go_ret
 exact⟨by rw[HR.out];rfl,HM6.out.b⟩):p:=h
theorem Z19 {p:Prop}(h:p:=by
 have e1:(([]:By)==ver)=false:=by rw[beq_eq_false_iff_ne];exact fun e=>z10 e.symm
 have e2:=str_ne e1
 have e3:((⟨#[]⟩:ByteArray).toList==(⟨ver.toArray⟩:ByteArray).toList)=false:=e2
 have e4:List.isEmpty ver=false:=by rw[List.isEmpty_eq_false_iff];exact z10
 clear e1 e2
 have c0:=HM6.out.z.cell 0 rfl
 have c2:=HM6.out.z.cell 2 rfl
 have c3:=HM6.out.z.cell 3 rfl
 have c4:=HM6.out.z.cell 4 rfl
 have c5:=HM6.out.z.cell 5 rfl
 have c7:=HM6.out.z.cell 7 rfl
 have c8:=HM6.out.z.cell 8 rfl
 have c9:=HM6.out.z.cell 9 rfl
 have c10:=HM6.out.z.cell 10 rfl
 have r0:=HM6.out.r.cell 0 rfl
 have r2:=HM6.out.r.cell 2 rfl
 have r3:=HM6.out.r.cell 3 rfl
 have r4:=HM6.out.r.cell 4 rfl
 have r5:=HM6.out.r.cell 5 rfl
 have r7:=HM6.out.r.cell 7 rfl
 have r8:=HM6.out.r.cell 8 rfl
 have r9:=HM6.out.r.cell 9 rfl
 have r10:=HM6.out.r.cell 10 rfl
 go_wp2_with fail
 go_ret
 exact⟨by rw[HR.out];rfl,HM6.out.b⟩):p:=h
theorem Z2 {p:Prop}(h:p:=by
 have c0:=HM6.out.z.cell 0 rfl
 have c2:=HM6.out.z.cell 2 rfl
 have c3:=HM6.out.z.cell 3 rfl
 have c4:=HM6.out.z.cell 4 rfl
 have c5:=HM6.out.z.cell 5 rfl
 have c7:=HM6.out.z.cell 7 rfl
 have c8:=HM6.out.z.cell 8 rfl
 have c9:=HM6.out.z.cell 9 rfl
 have c10:=HM6.out.z.cell 10 rfl
 have c11:=HM6.out.z.cell 11 rfl
 have c12:=HM6.out.z.cell 12 rfl
 have r0:=HM6.out.r.cell 0 rfl
 have r2:=HM6.out.r.cell 2 rfl
 have r3:=HM6.out.r.cell 3 rfl
 have r4:=HM6.out.r.cell 4 rfl
 have r5:=HM6.out.r.cell 5 rfl
 have r7:=HM6.out.r.cell 7 rfl
 have r8:=HM6.out.r.cell 8 rfl
 have r9:=HM6.out.r.cell 9 rfl
 have r10:=HM6.out.r.cell 10 rfl
 have r11:=HM6.out.r.cell 11 rfl
 have r12:=HM6.out.r.cell 12 rfl
 go_wp2_with fail
 go_ret
 exact⟨by rw[HR.out];rfl,HM6.out.b⟩):p:=h
end Go.Proofs.YtdmjegelcdghlaaGreat
namespace Go.Proofs.YtdmjegelcdghlaaGreat.Gr
open Go.RowKit
structure Cm where
 kd:Int
 fam:By
 ser:Int
 tok:Int
 cli:By
 usr:By
 sco:List By
 red:By
 cha:By
 met:By
 ver:By
 rf:Bool
 edg:Int
def cmV (c:Cm)(sv:Value):Value:= .agg #[.int .i64 c.kd,.string ⟨c.fam.toArray⟩,.int .i64 c.ser,.int .i64 c.tok,.string ⟨c.cli.toArray⟩,.string ⟨c.usr.toArray⟩,sv,.string ⟨c.red.toArray⟩,.string ⟨c.cha.toArray⟩,.string ⟨c.met.toArray⟩,.string ⟨c.ver.toArray⟩,.bool c.rf,.int .i64 c.edg]
def idC (f:By):Bool:=decide (Se.Right ⟨1,f,0⟩)
def tooC (c:Cm):Bool:= [c.cli,c.usr,c.red,c.cha,c.met,c.ver].any lng
def odd (c:Cm):Bool:=
 if c.kd=1 then(c.ser !=0)||(c.tok !=0)||(!c.ver.isEmpty)||(c.rf)||(c.edg !=0)
 else if c.kd=2 then(c.ser !=0)||(c.tok !=0)||(!c.usr.isEmpty)||(!c.cha.isEmpty)||(!c.met.isEmpty)||(c.edg !=0)
 else if c.kd=3 then(c.tok !=0)||(!c.usr.isEmpty)||(!c.red.isEmpty)||(!c.cha.isEmpty)||(!c.met.isEmpty)||(!c.ver.isEmpty)||(c.rf)||(c.edg !=0)
 else if c.kd=4 then(c.ser !=0)||(c.tok !=0)||(!c.usr.isEmpty)||(!c.red.isEmpty)||(!c.cha.isEmpty)||(!c.met.isEmpty)||(!c.ver.isEmpty)||(c.rf)||(c.edg !=0)
 else if c.kd=5 then(!c.usr.isEmpty)||(!c.red.isEmpty)||(!c.cha.isEmpty)||(!c.met.isEmpty)||(!c.ver.isEmpty)||(c.rf)||(c.edg !=0)
 else if c.kd=6 then(!c.cli.isEmpty)||(!c.usr.isEmpty)||(!c.red.isEmpty)||(!c.cha.isEmpty)||(!c.met.isEmpty)||(!c.ver.isEmpty)||(c.rf)
 else if c.kd=7 then(c.ser !=0)||(c.tok !=0)||(!c.cli.isEmpty)||(!c.usr.isEmpty)||(!c.red.isEmpty)||(!c.cha.isEmpty)||(!c.met.isEmpty)||(!c.ver.isEmpty)||(c.rf)||(c.edg !=0)
 else true
def scd (c:Cm):Bool:=c.kd==1||c.kd==3||c.kd==4
def lowC (c:Cm):Bool:=(decide (c.kd≤5)&&c.cli.isEmpty)||decide (c.ser<0)||decide (1099511627776<c.ser)||decide (c.edg<0)||decide (32≤c.edg)
def tokC (c:Cm):Bool:=(c.kd==5||c.kd==6)&&(decide (c.tok<1)||decide (3<c.tok))
def mayC (c:Cm):Bool:=decide (1≤c.kd∧c.kd≤7)&& !(!scd c&& !c.sco.isEmpty)&&setC c.sco&&idC c.fam&& !tooC c&& !odd c&& !lowC c&& !tokC c&&shownC c.cha c.met
structure CmOk (c:Cm):Prop where
 fam:c.fam.length≤140737488355000
 cli:c.cli.length≤140737488355000
 usr:c.usr.length≤140737488355000
 red:c.red.length≤140737488355000
 cha:c.cha.length≤140737488355000
 met:c.met.length≤140737488355000
 ver:c.ver.length≤140737488355000
 sco:c.sco.length≤1048576
theorem gid_any (f:By)(w:World)(hl:f.length≤140737488355000):
 Calls Tryz.prog 98 #[.string ⟨f.toArray⟩] w fun e w'=>e= .returned (.bool (idC f))∧Below w.heap.size w w':=by
 have H:=Lib.hid (fun w=>Se.right_any ⟨1,f,0⟩ w (by show f.length≤_;omega))
 unfold Se.tkv at H
 go_enter Tryz.func98,Tryz.ntmps98
 go_wp2_with fail
 refine(H.out _).mono ?_
 rintro e w1 ⟨rfl,hb⟩
 have HB:=Lib.hid hb
 clear hb
 go_wp2_with fail
 go_ret
 exact⟨rfl,HB.out⟩
structure M2 (w W:World)(zc rc:List Value):Prop where
 z:Blk W w.heap.size 24 zc
 r:Blk W (w.heap.size+1) 24 rc
 b:Below w.heap.size w W
theorem M2.below {w W W':World}{zc rc:List Value}(h:M2 w W zc rc)(hb:Below W.heap.size W W'):M2 w W' zc rc:=⟨h.z.below hb h.z.lt,h.r.below hb h.r.lt,h.b.trans (hb.mono h.b.size)⟩
theorem M2.alloc {w W:World}{zc rc:List Value}(h:M2 w W zc rc)(o:Obj):M2 w (W.alloc o) zc rc:=⟨h.z.alloc o,h.r.alloc o,h.b.alloc h.b.size o⟩
theorem M2.set {w W:World}{zc rc:List Value}(h:M2 w W zc rc)(j:Nat)(v:Value):M2 w (W.setCell ⟨w.heap.size+1,j,none⟩ v) zc (rc.set j v):=⟨h.z.setOther _ _ Z93,h.r.set j v,h.b.setCell Z93 v⟩
theorem M2.drew {w W:World}{zc rc:List Value}(h:M2 w W zc rc):M2 w W.drew zc rc:=⟨h.z,h.r,⟨h.b.os,h.b.tape,h.b.output,h.b.size,h.b.block⟩⟩
theorem M2.start (w:World)(zc rc:List Value):M2 w ((w.alloc (.cells zc.toArray 24)).alloc (.cells rc.toArray 24)) zc rc:=⟨(Blk.new w _ zc).alloc _,by have h:=Blk.new (w.alloc (.cells zc.toArray 24)) 24 rc;rw[World.size_alloc] at h;exact h,((Below.refl _ _).alloc (Nat.le_refl _) _).alloc Z93 _⟩
theorem rds6 (w:World)(a b c d e f:By)(ha:a.length≤140737488355000)(hb:b.length≤140737488355000)(hc:c.length≤140737488355000)(hd:d.length≤140737488355000)(he:e.length≤140737488355000)(hf:f.length≤140737488355000):
 RdS (w.alloc (.cells #[.string ⟨a.toArray⟩,.string ⟨b.toArray⟩,.string ⟨c.toArray⟩,.string ⟨d.toArray⟩,.string ⟨e.toArray⟩,.string ⟨f.toArray⟩] 9)) (.slice (some ⟨w.heap.size,0,none⟩) 6 6) [a,b,c,d,e,f]:=by
 refine⟨⟨rfl,.inr ⟨_,0,6,rfl,Z93,fun j u hj=> ?_⟩⟩,?_⟩
 ·have h:=cells_new w [.string ⟨a.toArray⟩,.string ⟨b.toArray⟩,.string ⟨c.toArray⟩,.string ⟨d.toArray⟩,.string ⟨e.toArray⟩,.string ⟨f.toArray⟩] 9 j u hj
  rw[Addr.add_lit] at h;exact h
 ·intro x hx
  simp at hx
  rcases hx with rfl|rfl|rfl|rfl|rfl|rfl<;>omega
theorem may_1 (c:Cm)(sv:Value)(w:World)(hk:c.kd=1)(hs:RdS w sv c.sco)(hc:CmOk c):
 Calls Tryz.prog 82 #[cmV c sv] w fun e w'=>e= .returned (.bool (mayC c))∧Below w.heap.size w w':=by
 obtain⟨kd,fam,ser,tok,cli,usr,sco,red,cha,met,ver,rf,edg⟩:=c
 subst hk
 obtain⟨sa,sc,rfl⟩:=hs.1.slice
 have HS:=Lib.hid hs
 have HC:=Lib.hid hc
 clear hs hc
 have HM0:=Lib.hid (M2.start w [.int .i64 1,.string ⟨fam.toArray⟩,.int .i64 ser,.int .i64 tok,.string ⟨cli.toArray⟩,.string ⟨usr.toArray⟩,.slice sa sco.length sc,.string ⟨red.toArray⟩,.string ⟨cha.toArray⟩,.string ⟨met.toArray⟩,.string ⟨ver.toArray⟩,.bool rf,.int .i64 edg] [.int .i64 0,.string ⟨#[]⟩,.int .i64 0,.int .i64 0,.string ⟨cli.toArray⟩,.string ⟨usr.toArray⟩,.slice none 0 0,.string ⟨red.toArray⟩,.string ⟨cha.toArray⟩,.string ⟨met.toArray⟩,.string ⟨#[]⟩,.bool false,.int .i64 0])
 unfold cmV
 have H1:=Lib.hid (setG_any _ sco _ (HS.out.below HM0.out.b) Z62)
 go_enter Tryz.func82,Tryz.ntmps82
 go_wp2_with fail
 refine H1.out.mono ?_
 rintro e w1 ⟨rfl,hb1⟩
 have HM1:=Lib.hid (HM0.out.below hb1)
 clear hb1 H1
 cases h1:setC sco with
 |false=>
  have HR:Hid (mayC ⟨1,fam,ser,tok,cli,usr,sco,red,cha,met,ver,rf,edg⟩=false):=Lib.hid Z109
  clear h1
  go_wp2_with fail
  go_ret
  exact⟨Z28,HM1.out.b⟩
 |true=>
 have HQ1:=Lib.hid h1
 clear h1
 have c1:=HM1.out.z.cell 1 rfl
 have H2:=Lib.hid (gid_any fam w1 HC.out.fam)
 go_wp2_with fail
 refine H2.out.mono ?_
 rintro e w2 ⟨rfl,hb2⟩
 have HM2:=Lib.hid (HM1.out.below hb2)
 clear hb2 H2 c1
 cases h2:idC fam with
 |false=>
  have HR:Hid (mayC ⟨1,fam,ser,tok,cli,usr,sco,red,cha,met,ver,rf,edg⟩=false):=Lib.hid Z108
  clear h2
  go_wp2_with fail
  go_ret
  exact⟨Z28,HM2.out.b⟩
 |true=>
 have HQ2:=Lib.hid h2
 clear h2
 have c4:=HM2.out.z.cell 4 rfl
 have c5:=HM2.out.z.cell 5 rfl
 have c7:=HM2.out.z.cell 7 rfl
 have c8:=HM2.out.z.cell 8 rfl
 have c9:=HM2.out.z.cell 9 rfl
 have c10:=HM2.out.z.cell 10 rfl
 have HRD:=Lib.hid (rds6 w2 cli usr red cha met ver HC.out.cli HC.out.usr HC.out.red HC.out.cha HC.out.met HC.out.ver)
 have H3:=Lib.hid (texts_any _ _ _ HRD.out Z93)
 go_wp2_with fail
 refine H3.out.mono ?_
 rintro e w3 ⟨rfl,e3⟩
 have HM3:=Lib.hid (HM2.out.alloc (.cells #[.string ⟨cli.toArray⟩,.string ⟨usr.toArray⟩,.string ⟨red.toArray⟩,.string ⟨cha.toArray⟩,.string ⟨met.toArray⟩,.string ⟨ver.toArray⟩] 9))
 rw[e3] at HM3
 clear e3 H3 HRD c4 c5 c7 c8 c9 c10
 cases h3: [cli,usr,red,cha,met,ver].any lng with
 |true=>
  have HR:Hid (mayC ⟨1,fam,ser,tok,cli,usr,sco,red,cha,met,ver,rf,edg⟩=false):=Lib.hid Z87
  clear h3
  go_wp2_with fail
  go_ret
  exact⟨Z28,HM3.out.b⟩
 |false=>
 have HQ3:=Lib.hid h3
 clear h3
 have c0:=HM3.out.z.cell 0 rfl
 have c1:=HM3.out.z.cell 1 rfl
 have r0:=HM3.out.r.cell 0 rfl
 have fr0:=HM3.out.r.frozen 0
 have r1:=HM3.out.r.cell 1 rfl
 have fr1:=HM3.out.r.frozen 1
 have HM4:=Lib.hid ((HM3.out.set 0 (.int .i64 1)).set 1 (.string ⟨fam.toArray⟩))
 have HM5:Hid (M2 w ((w3.setCell ⟨w.heap.size+1,0,none⟩ (.int .i64 1)).setCell ⟨w.heap.size+1,1,none⟩ (.string ⟨fam.toArray⟩)) [.int .i64 1,.string ⟨fam.toArray⟩,.int .i64 ser,.int .i64 tok,.string ⟨cli.toArray⟩,.string ⟨usr.toArray⟩,.slice sa sco.length sc,.string ⟨red.toArray⟩,.string ⟨cha.toArray⟩,.string ⟨met.toArray⟩,.string ⟨ver.toArray⟩,.bool rf,.int .i64 edg] [.int .i64 1,.string ⟨fam.toArray⟩,.int .i64 0,.int .i64 0,.string ⟨cli.toArray⟩,.string ⟨usr.toArray⟩,.slice none 0 0,.string ⟨red.toArray⟩,.string ⟨cha.toArray⟩,.string ⟨met.toArray⟩,.string ⟨#[]⟩,.bool false,.int .i64 0]):=HM4
 have c0d:w3.drew.cell? ⟨w.heap.size,0,none⟩=some (.int .i64 1):=c0
 have r0d:w3.drew.cell? ⟨w.heap.size+1,0,none⟩=some (.int .i64 0):=r0
 have fr0d:w3.drew.frozen? ⟨w.heap.size+1,0,none⟩=false:=fr0
 have c1d:w3.drew.cell? ⟨w.heap.size,1,none⟩=some (.string ⟨fam.toArray⟩):=c1
 have r1d:w3.drew.cell? ⟨w.heap.size+1,1,none⟩=some (.string ⟨#[]⟩):=r1
 have fr1d:w3.drew.frozen? ⟨w.heap.size+1,1,none⟩=false:=fr1
 go_wp2_with fail
 go_region
 obtain⟨W5,hW5⟩: ∃W5,W5=((w3.setCell ⟨w.heap.size+1,0,none⟩ (.int .i64 1)).setCell ⟨w.heap.size+1,1,none⟩ (.string ⟨fam.toArray⟩)).drew:=⟨_,rfl⟩
 have HM6:Hid (M2 w W5 [.int .i64 1,.string ⟨fam.toArray⟩,.int .i64 ser,.int .i64 tok,.string ⟨cli.toArray⟩,.string ⟨usr.toArray⟩,.slice sa sco.length sc,.string ⟨red.toArray⟩,.string ⟨cha.toArray⟩,.string ⟨met.toArray⟩,.string ⟨ver.toArray⟩,.bool rf,.int .i64 edg] [.int .i64 1,.string ⟨fam.toArray⟩,.int .i64 0,.int .i64 0,.string ⟨cli.toArray⟩,.string ⟨usr.toArray⟩,.slice none 0 0,.string ⟨red.toArray⟩,.string ⟨cha.toArray⟩,.string ⟨met.toArray⟩,.string ⟨#[]⟩,.bool false,.int .i64 0]):=by rw[hW5];exact Lib.hid HM5.out.drew
 rw[←hW5]
 go_step
 go_step
 go_step
 simp only[List.append_eq,List.cons_append,List.nil_append]
 clear hW5 HM5 HM4 c0 c1 c0d c1d r0 r1 r0d r1d fr0 fr1 fr0d fr1d
 by_cases z2:ser=0
 case neg=>
  have HR:Hid (mayC ⟨1,fam,ser,tok,cli,usr,sco,red,cha,met,ver,rf,edg⟩=false):=Lib.hid (by have ho:odd ⟨1,fam,ser,tok,cli,usr,sco,red,cha,met,ver,rf,edg⟩=true:=(by unfold odd;simp[z2]);unfold mayC;rw[ho];simp)
  exact Z179
 case pos=>
 subst z2
 by_cases z3:tok=0
 case neg=>
  have HR:Hid (mayC ⟨1,fam,0,tok,cli,usr,sco,red,cha,met,ver,rf,edg⟩=false):=Lib.hid (by have ho:odd ⟨1,fam,0,tok,cli,usr,sco,red,cha,met,ver,rf,edg⟩=true:=Z157;unfold mayC;rw[ho];simp)
  exact Z173
 case pos=>
 subst z3
 by_cases z10:ver= []
 case neg=>
  have HR:Hid (mayC ⟨1,fam,0,0,cli,usr,sco,red,cha,met,ver,rf,edg⟩=false):=Lib.hid (by have ho:odd ⟨1,fam,0,0,cli,usr,sco,red,cha,met,ver,rf,edg⟩=true:=Z126;unfold mayC;rw[ho];simp)
  exact Z19
 case pos=>
 subst z10
 by_cases z11:rf=false
 case neg=>
  have HR:Hid (mayC ⟨1,fam,0,0,cli,usr,sco,red,cha,met,[],rf,edg⟩=false):=Lib.hid (by have ho:odd ⟨1,fam,0,0,cli,usr,sco,red,cha,met,[],rf,edg⟩=true:=Z125;unfold mayC;rw[ho];simp)
  exact Z160
 case pos=>
 subst z11
 by_cases z12:edg=0
 case neg=>
  have HR:Hid (mayC ⟨1,fam,0,0,cli,usr,sco,red,cha,met,[],false,edg⟩=false):=Lib.hid (by have ho:odd ⟨1,fam,0,0,cli,usr,sco,red,cha,met,[],false,edg⟩=true:=Z124;unfold mayC;rw[ho];simp)
  exact Z182
 case pos=>
 subst z12
 by_cases hcli:cli= []
 case pos=>
  have hcli':=hcli
  subst hcli'
  clear hcli
  have HR:Hid (mayC ⟨1,fam,0,0,[],usr,sco,red,cha,met,[],false,0⟩=false):=Lib.hid (by unfold mayC;rw[show lowC ⟨1,fam,0,0,[],usr,sco,red,cha,met,[],false,0⟩=true from by simp[lowC]];simp)
  exact Z2
 case neg=>
 have ec1:(cli==([]:By))=false:=by simpa using hcli
 have ec2:=str_ne ec1
 have ec3:((⟨cli.toArray⟩:ByteArray).toList==(⟨#[]⟩:ByteArray).toList)=false:=ec2
 have ec4:List.isEmpty cli=false:=by rw[List.isEmpty_eq_false_iff];exact hcli
 have HCLI:=Lib.hid hcli
 clear ec1 ec2 hcli
 have HR:Hid (mayC ⟨1,fam,0,0,cli,usr,sco,red,cha,met,[],false,0⟩=shownC cha met):=Lib.hid (by
  have q1:=HQ1.out;have q2:=HQ2.out;have q3:=HQ3.out
  have g1:odd ⟨1,fam,0,0,cli,usr,sco,red,cha,met,[],false,0⟩=false:=by simp[odd]
  have g2:lowC ⟨1,fam,0,0,cli,usr,sco,red,cha,met,[],false,0⟩=false:=by simp[lowC,HCLI.out]
  have g3:tokC ⟨1,fam,0,0,cli,usr,sco,red,cha,met,[],false,0⟩=false:=by simp[tokC]
  have g4:tooC ⟨1,fam,0,0,cli,usr,sco,red,cha,met,[],false,0⟩=false:=q3
  unfold mayC;rw[g1,g2,g3,g4];simp[q1,q2,scd])
 have HSH:=Lib.hid (gshown_any cha met W5 HC.out.cha)
 have c0:=HM6.out.z.cell 0 rfl
 have c2:=HM6.out.z.cell 2 rfl
 have c3:=HM6.out.z.cell 3 rfl
 have c4:=HM6.out.z.cell 4 rfl
 have c5:=HM6.out.z.cell 5 rfl
 have c7:=HM6.out.z.cell 7 rfl
 have c8:=HM6.out.z.cell 8 rfl
 have c9:=HM6.out.z.cell 9 rfl
 have c10:=HM6.out.z.cell 10 rfl
 have c11:=HM6.out.z.cell 11 rfl
 have c12:=HM6.out.z.cell 12 rfl
 have r0:=HM6.out.r.cell 0 rfl
 have r2:=HM6.out.r.cell 2 rfl
 have r3:=HM6.out.r.cell 3 rfl
 have r4:=HM6.out.r.cell 4 rfl
 have r5:=HM6.out.r.cell 5 rfl
 have r7:=HM6.out.r.cell 7 rfl
 have r8:=HM6.out.r.cell 8 rfl
 have r9:=HM6.out.r.cell 9 rfl
 have r10:=HM6.out.r.cell 10 rfl
 have r11:=HM6.out.r.cell 11 rfl
 have r12:=HM6.out.r.cell 12 rfl
 go_wp2_with fail
 refine HSH.out.mono ?_
 rintro e w7 ⟨rfl,hb7⟩
 have HB7:=Lib.hid (Se.below_step HM6.out.b hb7)
 clear hb7
 go_wp2_with fail
 go_ret
 exact⟨Z28,HB7.out⟩
end Go.Proofs.YtdmjegelcdghlaaGreat.Gr
