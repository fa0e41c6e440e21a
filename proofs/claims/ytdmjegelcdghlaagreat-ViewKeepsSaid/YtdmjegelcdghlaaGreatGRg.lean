/-
  Chapter 17: grant.May, exact (kinds 4, 5). Printed by gen_grant_may.py.
-/
import Derived.Test.YtdmjegelcdghlaaGreatGRc
set_option maxRecDepth 100000
set_option maxHeartbeats 64000000
set_option linter.unusedVariables false
set_option linter.unusedSimpArgs false
namespace Go.Proofs.YtdmjegelcdghlaaGreat
theorem Z176 {p:Prop}(h:p:=by
 have e1:(([]:By)==red)=false:=by rw[beq_eq_false_iff_ne];exact fun e=>z7 e.symm
 have e2:=str_ne e1
 have e3:((⟨#[]⟩:ByteArray).toList==(⟨red.toArray⟩:ByteArray).toList)=false:=e2
 have e4:List.isEmpty red=false:=by rw[List.isEmpty_eq_false_iff];exact z7
 clear e1 e2
 have c0:=HM6.out.z.cell 0 rfl
 have c2:=HM6.out.z.cell 2 rfl
 have c3:=HM6.out.z.cell 3 rfl
 have c4:=HM6.out.z.cell 4 rfl
 have c5:=HM6.out.z.cell 5 rfl
 have c7:=HM6.out.z.cell 7 rfl
 have r0:=HM6.out.r.cell 0 rfl
 have r2:=HM6.out.r.cell 2 rfl
 have r3:=HM6.out.r.cell 3 rfl
 have r4:=HM6.out.r.cell 4 rfl
 have r5:=HM6.out.r.cell 5 rfl
 have r7:=HM6.out.r.cell 7 rfl
 exact Z21):p:=h
theorem Z170 {p:Prop}(h:p:=by
 have e1:(([]:By)==usr)=false:=by rw[beq_eq_false_iff_ne];exact fun e=>z5 e.symm
 have e2:=str_ne e1
 have e3:((⟨#[]⟩:ByteArray).toList==(⟨usr.toArray⟩:ByteArray).toList)=false:=e2
 have e4:List.isEmpty usr=false:=by rw[List.isEmpty_eq_false_iff];exact z5
 clear e1 e2
 have c0:=HM6.out.z.cell 0 rfl
 have c2:=HM6.out.z.cell 2 rfl
 have c3:=HM6.out.z.cell 3 rfl
 have c4:=HM6.out.z.cell 4 rfl
 have c5:=HM6.out.z.cell 5 rfl
 have r0:=HM6.out.r.cell 0 rfl
 have r2:=HM6.out.r.cell 2 rfl
 have r3:=HM6.out.r.cell 3 rfl
 have r4:=HM6.out.r.cell 4 rfl
 have r5:=HM6.out.r.cell 5 rfl
 exact Z21):p:=h
theorem Z166 {p:Prop}(h:p:=by
 have e1:(([]:By)==cha)=false:=by rw[beq_eq_false_iff_ne];exact fun e=>z8 e.symm
 have e2:=str_ne e1
 have e3:((⟨#[]⟩:ByteArray).toList==(⟨cha.toArray⟩:ByteArray).toList)=false:=e2
 have e4:List.isEmpty cha=false:=by rw[List.isEmpty_eq_false_iff];exact z8
 clear e1 e2
 have c0:=HM6.out.z.cell 0 rfl
 have c2:=HM6.out.z.cell 2 rfl
 have c3:=HM6.out.z.cell 3 rfl
 have c4:=HM6.out.z.cell 4 rfl
 have c5:=HM6.out.z.cell 5 rfl
 have c7:=HM6.out.z.cell 7 rfl
 have c8:=HM6.out.z.cell 8 rfl
 have r0:=HM6.out.r.cell 0 rfl
 have r2:=HM6.out.r.cell 2 rfl
 have r3:=HM6.out.r.cell 3 rfl
 have r4:=HM6.out.r.cell 4 rfl
 have r5:=HM6.out.r.cell 5 rfl
 have r7:=HM6.out.r.cell 7 rfl
 have r8:=HM6.out.r.cell 8 rfl
 exact Z21):p:=h
theorem Z163 {p:Prop}(h:p:=by
 have e1:(([]:By)==met)=false:=by rw[beq_eq_false_iff_ne];exact fun e=>z9 e.symm
 have e2:=str_ne e1
 have e3:((⟨#[]⟩:ByteArray).toList==(⟨met.toArray⟩:ByteArray).toList)=false:=e2
 have e4:List.isEmpty met=false:=by rw[List.isEmpty_eq_false_iff];exact z9
 clear e1 e2
 have c0:=HM6.out.z.cell 0 rfl
 have c2:=HM6.out.z.cell 2 rfl
 have c3:=HM6.out.z.cell 3 rfl
 have c4:=HM6.out.z.cell 4 rfl
 have c5:=HM6.out.z.cell 5 rfl
 have c7:=HM6.out.z.cell 7 rfl
 have c8:=HM6.out.z.cell 8 rfl
 have c9:=HM6.out.z.cell 9 rfl
 have r0:=HM6.out.r.cell 0 rfl
 have r2:=HM6.out.r.cell 2 rfl
 have r3:=HM6.out.r.cell 3 rfl
 have r4:=HM6.out.r.cell 4 rfl
 have r5:=HM6.out.r.cell 5 rfl
 have r7:=HM6.out.r.cell 7 rfl
 have r8:=HM6.out.r.cell 8 rfl
 have r9:=HM6.out.r.cell 9 rfl
 exact Z21):p:=h
end Go.Proofs.YtdmjegelcdghlaaGreat
namespace Go.Proofs.YtdmjegelcdghlaaGreat.Gr
open Go.RowKit
theorem may_4 (c:Cm)(sv:Value)(w:World)(hk:c.kd=4)(hs:RdS w sv c.sco)(hc:CmOk c):
 Calls Tryz.prog 82 #[cmV c sv] w fun e w'=>e= .returned (.bool (mayC c))∧Below w.heap.size w w':=by
 obtain⟨kd,fam,ser,tok,cli,usr,sco,red,cha,met,ver,rf,edg⟩:=c
 subst hk
 obtain⟨sa,sc,rfl⟩:=hs.1.slice
 have HS:=Lib.hid hs
 have HC:=Lib.hid hc
 clear hs hc
 have HM0:=Lib.hid (M2.start w [.int .i64 4,.string ⟨fam.toArray⟩,.int .i64 ser,.int .i64 tok,.string ⟨cli.toArray⟩,.string ⟨usr.toArray⟩,.slice sa sco.length sc,.string ⟨red.toArray⟩,.string ⟨cha.toArray⟩,.string ⟨met.toArray⟩,.string ⟨ver.toArray⟩,.bool rf,.int .i64 edg] [.int .i64 0,.string ⟨#[]⟩,.int .i64 0,.int .i64 0,.string ⟨cli.toArray⟩,.string ⟨#[]⟩,.slice none 0 0,.string ⟨#[]⟩,.string ⟨#[]⟩,.string ⟨#[]⟩,.string ⟨#[]⟩,.bool false,.int .i64 0])
 unfold cmV
 have H1:=Lib.hid (setG_any _ sco _ (HS.out.below HM0.out.b) Z62)
 go_enter Tryz.func82,Tryz.ntmps82
 go_wp2_with fail
 refine H1.out.mono ?_
 rintro e w1 ⟨rfl,hb1⟩
 have HM1:=Lib.hid (HM0.out.below hb1)
 clear hb1 H1
 cases h1:setC sco with
 |false=>
  have HR:Hid (mayC ⟨4,fam,ser,tok,cli,usr,sco,red,cha,met,ver,rf,edg⟩=false):=Lib.hid Z109
  clear h1
  go_wp2_with fail
  go_ret
  exact⟨Z28,HM1.out.b⟩
 |true=>
 have HQ1:=Lib.hid h1
 clear h1
 have c1:=HM1.out.z.cell 1 rfl
 have H2:=Lib.hid (gid_any fam w1 HC.out.fam)
 go_wp2_with fail
 refine H2.out.mono ?_
 rintro e w2 ⟨rfl,hb2⟩
 have HM2:=Lib.hid (HM1.out.below hb2)
 clear hb2 H2 c1
 cases h2:idC fam with
 |false=>
  have HR:Hid (mayC ⟨4,fam,ser,tok,cli,usr,sco,red,cha,met,ver,rf,edg⟩=false):=Lib.hid Z108
  clear h2
  go_wp2_with fail
  go_ret
  exact⟨Z28,HM2.out.b⟩
 |true=>
 have HQ2:=Lib.hid h2
 clear h2
 have c4:=HM2.out.z.cell 4 rfl
 have c5:=HM2.out.z.cell 5 rfl
 have c7:=HM2.out.z.cell 7 rfl
 have c8:=HM2.out.z.cell 8 rfl
 have c9:=HM2.out.z.cell 9 rfl
 have c10:=HM2.out.z.cell 10 rfl
 have HRD:=Lib.hid (rds6 w2 cli usr red cha met ver HC.out.cli HC.out.usr HC.out.red HC.out.cha HC.out.met HC.out.ver)
 have H3:=Lib.hid (texts_any _ _ _ HRD.out Z93)
 go_wp2_with fail
 refine H3.out.mono ?_
 rintro e w3 ⟨rfl,e3⟩
 have HM3:=Lib.hid (HM2.out.alloc (.cells #[.string ⟨cli.toArray⟩,.string ⟨usr.toArray⟩,.string ⟨red.toArray⟩,.string ⟨cha.toArray⟩,.string ⟨met.toArray⟩,.string ⟨ver.toArray⟩] 9))
 rw[e3] at HM3
 clear e3 H3 HRD c4 c5 c7 c8 c9 c10
 cases h3: [cli,usr,red,cha,met,ver].any lng with
 |true=>
  have HR:Hid (mayC ⟨4,fam,ser,tok,cli,usr,sco,red,cha,met,ver,rf,edg⟩=false):=Lib.hid Z87
  clear h3
  go_wp2_with fail
  go_ret
  exact⟨Z28,HM3.out.b⟩
 |false=>
 have HQ3:=Lib.hid h3
 clear h3
 have c0:=HM3.out.z.cell 0 rfl
 have c1:=HM3.out.z.cell 1 rfl
 have r0:=HM3.out.r.cell 0 rfl
 have fr0:=HM3.out.r.frozen 0
 have r1:=HM3.out.r.cell 1 rfl
 have fr1:=HM3.out.r.frozen 1
 have HM4:=Lib.hid ((HM3.out.set 0 (.int .i64 4)).set 1 (.string ⟨fam.toArray⟩))
 have HM5:Hid (M2 w ((w3.setCell ⟨w.heap.size+1,0,none⟩ (.int .i64 4)).setCell ⟨w.heap.size+1,1,none⟩ (.string ⟨fam.toArray⟩)) [.int .i64 4,.string ⟨fam.toArray⟩,.int .i64 ser,.int .i64 tok,.string ⟨cli.toArray⟩,.string ⟨usr.toArray⟩,.slice sa sco.length sc,.string ⟨red.toArray⟩,.string ⟨cha.toArray⟩,.string ⟨met.toArray⟩,.string ⟨ver.toArray⟩,.bool rf,.int .i64 edg] [.int .i64 4,.string ⟨fam.toArray⟩,.int .i64 0,.int .i64 0,.string ⟨cli.toArray⟩,.string ⟨#[]⟩,.slice none 0 0,.string ⟨#[]⟩,.string ⟨#[]⟩,.string ⟨#[]⟩,.string ⟨#[]⟩,.bool false,.int .i64 0]):=HM4
 have c0d:w3.drew.cell? ⟨w.heap.size,0,none⟩=some (.int .i64 4):=c0
 have r0d:w3.drew.cell? ⟨w.heap.size+1,0,none⟩=some (.int .i64 0):=r0
 have fr0d:w3.drew.frozen? ⟨w.heap.size+1,0,none⟩=false:=fr0
 have c1d:w3.drew.cell? ⟨w.heap.size,1,none⟩=some (.string ⟨fam.toArray⟩):=c1
 have r1d:w3.drew.cell? ⟨w.heap.size+1,1,none⟩=some (.string ⟨#[]⟩):=r1
 have fr1d:w3.drew.frozen? ⟨w.heap.size+1,1,none⟩=false:=fr1
 go_wp2_with fail
 go_region
 obtain⟨W5,hW5⟩: ∃W5,W5=((w3.setCell ⟨w.heap.size+1,0,none⟩ (.int .i64 4)).setCell ⟨w.heap.size+1,1,none⟩ (.string ⟨fam.toArray⟩)).drew:=⟨_,rfl⟩
 have HM6:Hid (M2 w W5 [.int .i64 4,.string ⟨fam.toArray⟩,.int .i64 ser,.int .i64 tok,.string ⟨cli.toArray⟩,.string ⟨usr.toArray⟩,.slice sa sco.length sc,.string ⟨red.toArray⟩,.string ⟨cha.toArray⟩,.string ⟨met.toArray⟩,.string ⟨ver.toArray⟩,.bool rf,.int .i64 edg] [.int .i64 4,.string ⟨fam.toArray⟩,.int .i64 0,.int .i64 0,.string ⟨cli.toArray⟩,.string ⟨#[]⟩,.slice none 0 0,.string ⟨#[]⟩,.string ⟨#[]⟩,.string ⟨#[]⟩,.string ⟨#[]⟩,.bool false,.int .i64 0]):=by rw[hW5];exact Lib.hid HM5.out.drew
 rw[←hW5]
 go_step
 go_step
 go_step
 simp only[List.append_eq,List.cons_append,List.nil_append]
 clear hW5 HM5 HM4 c0 c1 c0d c1d r0 r1 r0d r1d fr0 fr1 fr0d fr1d
 by_cases z2:ser=0
 case neg=>
  have HR:Hid (mayC ⟨4,fam,ser,tok,cli,usr,sco,red,cha,met,ver,rf,edg⟩=false):=Lib.hid (by have ho:odd ⟨4,fam,ser,tok,cli,usr,sco,red,cha,met,ver,rf,edg⟩=true:=(by unfold odd;simp[z2]);unfold mayC;rw[ho];simp)
  exact Z179
 case pos=>
 subst z2
 by_cases z3:tok=0
 case neg=>
  have HR:Hid (mayC ⟨4,fam,0,tok,cli,usr,sco,red,cha,met,ver,rf,edg⟩=false):=Lib.hid (by have ho:odd ⟨4,fam,0,tok,cli,usr,sco,red,cha,met,ver,rf,edg⟩=true:=Z157;unfold mayC;rw[ho];simp)
  exact Z173
 case pos=>
 subst z3
 by_cases z5:usr= []
 case neg=>
  have HR:Hid (mayC ⟨4,fam,0,0,cli,usr,sco,red,cha,met,ver,rf,edg⟩=false):=Lib.hid (by have ho:odd ⟨4,fam,0,0,cli,usr,sco,red,cha,met,ver,rf,edg⟩=true:=(by unfold odd;simp[z5]);unfold mayC;rw[ho];simp)
  exact Z170
 case pos=>
 subst z5
 by_cases z7:red= []
 case neg=>
  have HR:Hid (mayC ⟨4,fam,0,0,cli,[],sco,red,cha,met,ver,rf,edg⟩=false):=Lib.hid (by have ho:odd ⟨4,fam,0,0,cli,[],sco,red,cha,met,ver,rf,edg⟩=true:=(by unfold odd;simp[z7]);unfold mayC;rw[ho];simp)
  exact Z176
 case pos=>
 subst z7
 by_cases z8:cha= []
 case neg=>
  have HR:Hid (mayC ⟨4,fam,0,0,cli,[],sco,[],cha,met,ver,rf,edg⟩=false):=Lib.hid (by have ho:odd ⟨4,fam,0,0,cli,[],sco,[],cha,met,ver,rf,edg⟩=true:=(by unfold odd;simp[z8]);unfold mayC;rw[ho];simp)
  exact Z166
 case pos=>
 subst z8
 by_cases z9:met= []
 case neg=>
  have HR:Hid (mayC ⟨4,fam,0,0,cli,[],sco,[],[],met,ver,rf,edg⟩=false):=Lib.hid (by have ho:odd ⟨4,fam,0,0,cli,[],sco,[],[],met,ver,rf,edg⟩=true:=(by unfold odd;simp[z9]);unfold mayC;rw[ho];simp)
  exact Z163
 case pos=>
 subst z9
 by_cases z10:ver= []
 case neg=>
  have HR:Hid (mayC ⟨4,fam,0,0,cli,[],sco,[],[],[],ver,rf,edg⟩=false):=Lib.hid (by have ho:odd ⟨4,fam,0,0,cli,[],sco,[],[],[],ver,rf,edg⟩=true:=Z126;unfold mayC;rw[ho];simp)
  exact Z19
 case pos=>
 subst z10
 by_cases z11:rf=false
 case neg=>
  have HR:Hid (mayC ⟨4,fam,0,0,cli,[],sco,[],[],[],[],rf,edg⟩=false):=Lib.hid (by have ho:odd ⟨4,fam,0,0,cli,[],sco,[],[],[],[],rf,edg⟩=true:=Z125;unfold mayC;rw[ho];simp)
  exact Z160
 case pos=>
 subst z11
 by_cases z12:edg=0
 case neg=>
  have HR:Hid (mayC ⟨4,fam,0,0,cli,[],sco,[],[],[],[],false,edg⟩=false):=Lib.hid (by have ho:odd ⟨4,fam,0,0,cli,[],sco,[],[],[],[],false,edg⟩=true:=Z124;unfold mayC;rw[ho];simp)
  exact Z182
 case pos=>
 subst z12
 by_cases hcli:cli= []
 case pos=>
  have hcli':=hcli
  subst hcli'
  clear hcli
  have HR:Hid (mayC ⟨4,fam,0,0,[],[],sco,[],[],[],[],false,0⟩=false):=Lib.hid (by unfold mayC;rw[show lowC ⟨4,fam,0,0,[],[],sco,[],[],[],[],false,0⟩=true from by simp[lowC]];simp)
  exact Z2
 case neg=>
 have ec1:(cli==([]:By))=false:=by simpa using hcli
 have ec2:=str_ne ec1
 have ec3:((⟨cli.toArray⟩:ByteArray).toList==(⟨#[]⟩:ByteArray).toList)=false:=ec2
 have ec4:List.isEmpty cli=false:=by rw[List.isEmpty_eq_false_iff];exact hcli
 have HCLI:=Lib.hid hcli
 clear ec1 ec2 hcli
 have HR:Hid (mayC ⟨4,fam,0,0,cli,[],sco,[],[],[],[],false,0⟩=shownC [] []):=Lib.hid (by
  have q1:=HQ1.out;have q2:=HQ2.out;have q3:=HQ3.out
  have g1:odd ⟨4,fam,0,0,cli,[],sco,[],[],[],[],false,0⟩=false:=by simp[odd]
  have g2:lowC ⟨4,fam,0,0,cli,[],sco,[],[],[],[],false,0⟩=false:=by simp[lowC,HCLI.out]
  have g3:tokC ⟨4,fam,0,0,cli,[],sco,[],[],[],[],false,0⟩=false:=by simp[tokC]
  have g4:tooC ⟨4,fam,0,0,cli,[],sco,[],[],[],[],false,0⟩=false:=q3
  unfold mayC;rw[g1,g2,g3,g4];simp[q1,q2,scd])
 have HSH:=Lib.hid (gshown_any [] [] W5 Z93)
 have c0:=HM6.out.z.cell 0 rfl
 have c2:=HM6.out.z.cell 2 rfl
 have c3:=HM6.out.z.cell 3 rfl
 have c4:=HM6.out.z.cell 4 rfl
 have c5:=HM6.out.z.cell 5 rfl
 have c7:=HM6.out.z.cell 7 rfl
 have c8:=HM6.out.z.cell 8 rfl
 have c9:=HM6.out.z.cell 9 rfl
 have c10:=HM6.out.z.cell 10 rfl
 have c11:=HM6.out.z.cell 11 rfl
 have c12:=HM6.out.z.cell 12 rfl
 have r0:=HM6.out.r.cell 0 rfl
 have r2:=HM6.out.r.cell 2 rfl
 have r3:=HM6.out.r.cell 3 rfl
 have r4:=HM6.out.r.cell 4 rfl
 have r5:=HM6.out.r.cell 5 rfl
 have r7:=HM6.out.r.cell 7 rfl
 have r8:=HM6.out.r.cell 8 rfl
 have r9:=HM6.out.r.cell 9 rfl
 have r10:=HM6.out.r.cell 10 rfl
 have r11:=HM6.out.r.cell 11 rfl
 have r12:=HM6.out.r.cell 12 rfl
 go_wp2_with fail
 refine HSH.out.mono ?_
 rintro e w7 ⟨rfl,hb7⟩
 have HB7:=Lib.hid (Se.below_step HM6.out.b hb7)
 clear hb7
 go_wp2_with fail
 go_ret
 exact⟨Z28,HB7.out⟩
theorem may_5n (c:Cm)(sv:Value)(w:World)(hk:c.kd=5)(hn:c.sco≠ [])(hs:RdS w sv c.sco)(hc:CmOk c):
 Calls Tryz.prog 82 #[cmV c sv] w fun e w'=>e= .returned (.bool (mayC c))∧Below w.heap.size w w':=by
 obtain⟨kd,fam,ser,tok,cli,usr,sco,red,cha,met,ver,rf,edg⟩:=c
 subst hk
 obtain⟨n,h1⟩: ∃n,n=sco.length:=⟨_,rfl⟩
 have t1:0<n:=by rw[h1];exact List.length_pos_iff.2 hn
 have t2:(0:Int)<(n:Int):=by omega
 have t3: ¬n=0:=by omega
 obtain⟨sa,sc,hv⟩:=hs.1.slice
 rw[←h1] at hv
 subst hv
 have HR:Hid (mayC ⟨5,fam,ser,tok,cli,usr,sco,red,cha,met,ver,rf,edg⟩=false):=Lib.hid (by unfold mayC scd;have hn':sco≠ []:=hn;simp[hn'])
 have HM0:=Lib.hid (M2.start w [.int .i64 5,.string ⟨fam.toArray⟩,.int .i64 ser,.int .i64 tok,.string ⟨cli.toArray⟩,.string ⟨usr.toArray⟩,.slice sa n sc,.string ⟨red.toArray⟩,.string ⟨cha.toArray⟩,.string ⟨met.toArray⟩,.string ⟨ver.toArray⟩,.bool rf,.int .i64 edg] [.int .i64 0,.string ⟨#[]⟩,.int .i64 ser,.int .i64 tok,.string ⟨cli.toArray⟩,.string ⟨#[]⟩,.slice none 0 0,.string ⟨#[]⟩,.string ⟨#[]⟩,.string ⟨#[]⟩,.string ⟨#[]⟩,.bool false,.int .i64 0])
 clear hs hc h1 hn
 unfold cmV
 go_enter Tryz.func82,Tryz.ntmps82
 go_wp2_with fail
 go_ret
 exact⟨Z28,HM0.out.b⟩
theorem may_5z (c:Cm)(sv:Value)(w:World)(hk:c.kd=5)(hn:c.sco= [])(hs:RdS w sv c.sco)(hc:CmOk c):
 Calls Tryz.prog 82 #[cmV c sv] w fun e w'=>e= .returned (.bool (mayC c))∧Below w.heap.size w w':=by
 obtain⟨kd,fam,ser,tok,cli,usr,sco,red,cha,met,ver,rf,edg⟩:=c
 subst hk
 have hn':sco= []:=hn
 subst hn'
 clear hn
 obtain⟨sa,sc,rfl⟩:=hs.1.slice
 have HS:=Lib.hid hs
 have HC:=Lib.hid hc
 clear hs hc
 have HM0:=Lib.hid (M2.start w [.int .i64 5,.string ⟨fam.toArray⟩,.int .i64 ser,.int .i64 tok,.string ⟨cli.toArray⟩,.string ⟨usr.toArray⟩,.slice sa 0 sc,.string ⟨red.toArray⟩,.string ⟨cha.toArray⟩,.string ⟨met.toArray⟩,.string ⟨ver.toArray⟩,.bool rf,.int .i64 edg] [.int .i64 0,.string ⟨#[]⟩,.int .i64 ser,.int .i64 tok,.string ⟨cli.toArray⟩,.string ⟨#[]⟩,.slice none 0 0,.string ⟨#[]⟩,.string ⟨#[]⟩,.string ⟨#[]⟩,.string ⟨#[]⟩,.bool false,.int .i64 0])
 unfold cmV
 simp only[List.length_nil] at HS⊢
 have H1:=Lib.hid (setG_any _ [] _ (HS.out.below HM0.out.b) Z62)
 go_enter Tryz.func82,Tryz.ntmps82
 go_wp2_with fail
 refine H1.out.mono ?_
 rintro e w1 ⟨rfl,hb1⟩
 have HM1:=Lib.hid (HM0.out.below hb1)
 clear hb1 H1
 cases h1:setC [] with
 |false=>
  have HR:Hid (mayC ⟨5,fam,ser,tok,cli,usr,[],red,cha,met,ver,rf,edg⟩=false):=Lib.hid Z109
  clear h1
  go_wp2_with fail
  go_ret
  exact⟨Z28,HM1.out.b⟩
 |true=>
 have HQ1:=Lib.hid h1
 clear h1
 have c1:=HM1.out.z.cell 1 rfl
 have H2:=Lib.hid (gid_any fam w1 HC.out.fam)
 go_wp2_with fail
 refine H2.out.mono ?_
 rintro e w2 ⟨rfl,hb2⟩
 have HM2:=Lib.hid (HM1.out.below hb2)
 clear hb2 H2 c1
 cases h2:idC fam with
 |false=>
  have HR:Hid (mayC ⟨5,fam,ser,tok,cli,usr,[],red,cha,met,ver,rf,edg⟩=false):=Lib.hid Z108
  clear h2
  go_wp2_with fail
  go_ret
  exact⟨Z28,HM2.out.b⟩
 |true=>
 have HQ2:=Lib.hid h2
 clear h2
 have c4:=HM2.out.z.cell 4 rfl
 have c5:=HM2.out.z.cell 5 rfl
 have c7:=HM2.out.z.cell 7 rfl
 have c8:=HM2.out.z.cell 8 rfl
 have c9:=HM2.out.z.cell 9 rfl
 have c10:=HM2.out.z.cell 10 rfl
 have HRD:=Lib.hid (rds6 w2 cli usr red cha met ver HC.out.cli HC.out.usr HC.out.red HC.out.cha HC.out.met HC.out.ver)
 have H3:=Lib.hid (texts_any _ _ _ HRD.out Z93)
 go_wp2_with fail
 refine H3.out.mono ?_
 rintro e w3 ⟨rfl,e3⟩
 have HM3:=Lib.hid (HM2.out.alloc (.cells #[.string ⟨cli.toArray⟩,.string ⟨usr.toArray⟩,.string ⟨red.toArray⟩,.string ⟨cha.toArray⟩,.string ⟨met.toArray⟩,.string ⟨ver.toArray⟩] 9))
 rw[e3] at HM3
 clear e3 H3 HRD c4 c5 c7 c8 c9 c10
 cases h3: [cli,usr,red,cha,met,ver].any lng with
 |true=>
  have HR:Hid (mayC ⟨5,fam,ser,tok,cli,usr,[],red,cha,met,ver,rf,edg⟩=false):=Lib.hid Z87
  clear h3
  go_wp2_with fail
  go_ret
  exact⟨Z28,HM3.out.b⟩
 |false=>
 have HQ3:=Lib.hid h3
 clear h3
 have c0:=HM3.out.z.cell 0 rfl
 have c1:=HM3.out.z.cell 1 rfl
 have r0:=HM3.out.r.cell 0 rfl
 have fr0:=HM3.out.r.frozen 0
 have r1:=HM3.out.r.cell 1 rfl
 have fr1:=HM3.out.r.frozen 1
 have HM4:=Lib.hid ((HM3.out.set 0 (.int .i64 5)).set 1 (.string ⟨fam.toArray⟩))
 have HM5:Hid (M2 w ((w3.setCell ⟨w.heap.size+1,0,none⟩ (.int .i64 5)).setCell ⟨w.heap.size+1,1,none⟩ (.string ⟨fam.toArray⟩)) [.int .i64 5,.string ⟨fam.toArray⟩,.int .i64 ser,.int .i64 tok,.string ⟨cli.toArray⟩,.string ⟨usr.toArray⟩,.slice sa 0 sc,.string ⟨red.toArray⟩,.string ⟨cha.toArray⟩,.string ⟨met.toArray⟩,.string ⟨ver.toArray⟩,.bool rf,.int .i64 edg] [.int .i64 5,.string ⟨fam.toArray⟩,.int .i64 ser,.int .i64 tok,.string ⟨cli.toArray⟩,.string ⟨#[]⟩,.slice none 0 0,.string ⟨#[]⟩,.string ⟨#[]⟩,.string ⟨#[]⟩,.string ⟨#[]⟩,.bool false,.int .i64 0]):=HM4
 have c0d:w3.drew.cell? ⟨w.heap.size,0,none⟩=some (.int .i64 5):=c0
 have r0d:w3.drew.cell? ⟨w.heap.size+1,0,none⟩=some (.int .i64 0):=r0
 have fr0d:w3.drew.frozen? ⟨w.heap.size+1,0,none⟩=false:=fr0
 have c1d:w3.drew.cell? ⟨w.heap.size,1,none⟩=some (.string ⟨fam.toArray⟩):=c1
 have r1d:w3.drew.cell? ⟨w.heap.size+1,1,none⟩=some (.string ⟨#[]⟩):=r1
 have fr1d:w3.drew.frozen? ⟨w.heap.size+1,1,none⟩=false:=fr1
 go_wp2_with fail
 go_region
 obtain⟨W5,hW5⟩: ∃W5,W5=((w3.setCell ⟨w.heap.size+1,0,none⟩ (.int .i64 5)).setCell ⟨w.heap.size+1,1,none⟩ (.string ⟨fam.toArray⟩)).drew:=⟨_,rfl⟩
 have HM6:Hid (M2 w W5 [.int .i64 5,.string ⟨fam.toArray⟩,.int .i64 ser,.int .i64 tok,.string ⟨cli.toArray⟩,.string ⟨usr.toArray⟩,.slice sa 0 sc,.string ⟨red.toArray⟩,.string ⟨cha.toArray⟩,.string ⟨met.toArray⟩,.string ⟨ver.toArray⟩,.bool rf,.int .i64 edg] [.int .i64 5,.string ⟨fam.toArray⟩,.int .i64 ser,.int .i64 tok,.string ⟨cli.toArray⟩,.string ⟨#[]⟩,.slice none 0 0,.string ⟨#[]⟩,.string ⟨#[]⟩,.string ⟨#[]⟩,.string ⟨#[]⟩,.bool false,.int .i64 0]):=by rw[hW5];exact Lib.hid HM5.out.drew
 rw[←hW5]
 go_step
 go_step
 go_step
 simp only[List.append_eq,List.cons_append,List.nil_append]
 clear hW5 HM5 HM4 c0 c1 c0d c1d r0 r1 r0d r1d fr0 fr1 fr0d fr1d
 by_cases z5:usr= []
 case neg=>
  have HR:Hid (mayC ⟨5,fam,ser,tok,cli,usr,[],red,cha,met,ver,rf,edg⟩=false):=Lib.hid (by have ho:odd ⟨5,fam,ser,tok,cli,usr,[],red,cha,met,ver,rf,edg⟩=true:=(by unfold odd;simp[z5]);unfold mayC;rw[ho];simp)
  exact Z170
 case pos=>
 subst z5
 by_cases z7:red= []
 case neg=>
  have HR:Hid (mayC ⟨5,fam,ser,tok,cli,[],[],red,cha,met,ver,rf,edg⟩=false):=Lib.hid (by have ho:odd ⟨5,fam,ser,tok,cli,[],[],red,cha,met,ver,rf,edg⟩=true:=(by unfold odd;simp[z7]);unfold mayC;rw[ho];simp)
  exact Z176
 case pos=>
 subst z7
 by_cases z8:cha= []
 case neg=>
  have HR:Hid (mayC ⟨5,fam,ser,tok,cli,[],[],[],cha,met,ver,rf,edg⟩=false):=Lib.hid (by have ho:odd ⟨5,fam,ser,tok,cli,[],[],[],cha,met,ver,rf,edg⟩=true:=(by unfold odd;simp[z8]);unfold mayC;rw[ho];simp)
  exact Z166
 case pos=>
 subst z8
 by_cases z9:met= []
 case neg=>
  have HR:Hid (mayC ⟨5,fam,ser,tok,cli,[],[],[],[],met,ver,rf,edg⟩=false):=Lib.hid (by have ho:odd ⟨5,fam,ser,tok,cli,[],[],[],[],met,ver,rf,edg⟩=true:=(by unfold odd;simp[z9]);unfold mayC;rw[ho];simp)
  exact Z163
 case pos=>
 subst z9
 by_cases z10:ver= []
 case neg=>
  have HR:Hid (mayC ⟨5,fam,ser,tok,cli,[],[],[],[],[],ver,rf,edg⟩=false):=Lib.hid (by have ho:odd ⟨5,fam,ser,tok,cli,[],[],[],[],[],ver,rf,edg⟩=true:=Z126;unfold mayC;rw[ho];simp)
  exact Z19
 case pos=>
 subst z10
 by_cases z11:rf=false
 case neg=>
  have HR:Hid (mayC ⟨5,fam,ser,tok,cli,[],[],[],[],[],[],rf,edg⟩=false):=Lib.hid (by have ho:odd ⟨5,fam,ser,tok,cli,[],[],[],[],[],[],rf,edg⟩=true:=Z125;unfold mayC;rw[ho];simp)
  exact Z160
 case pos=>
 subst z11
 by_cases z12:edg=0
 case neg=>
  have HR:Hid (mayC ⟨5,fam,ser,tok,cli,[],[],[],[],[],[],false,edg⟩=false):=Lib.hid (by have ho:odd ⟨5,fam,ser,tok,cli,[],[],[],[],[],[],false,edg⟩=true:=Z124;unfold mayC;rw[ho];simp)
  exact Z182
 case pos=>
 subst z12
 by_cases hcli:cli= []
 case pos=>
  have hcli':=hcli
  subst hcli'
  clear hcli
  have HR:Hid (mayC ⟨5,fam,ser,tok,[],[],[],[],[],[],[],false,0⟩=false):=Lib.hid (by unfold mayC;rw[show lowC ⟨5,fam,ser,tok,[],[],[],[],[],[],[],false,0⟩=true from by simp[lowC]];simp)
  exact Z2
 case neg=>
 have ec1:(cli==([]:By))=false:=by simpa using hcli
 have ec2:=str_ne ec1
 have ec3:((⟨cli.toArray⟩:ByteArray).toList==(⟨#[]⟩:ByteArray).toList)=false:=ec2
 have ec4:List.isEmpty cli=false:=by rw[List.isEmpty_eq_false_iff];exact hcli
 have HCLI:=Lib.hid hcli
 clear ec1 ec2 hcli
 by_cases hs0:ser<0
 case pos=>
  have HR:Hid (mayC ⟨5,fam,ser,tok,cli,[],[],[],[],[],[],false,0⟩=false):=Lib.hid (by unfold mayC;rw[show lowC ⟨5,fam,ser,tok,cli,[],[],[],[],[],[],false,0⟩=true from by simp[lowC,hs0]];simp)
  exact Z2
 case neg=>
 by_cases hs1:1099511627776<ser
 case pos=>
  have HR:Hid (mayC ⟨5,fam,ser,tok,cli,[],[],[],[],[],[],false,0⟩=false):=Lib.hid (by unfold mayC;rw[show lowC ⟨5,fam,ser,tok,cli,[],[],[],[],[],[],false,0⟩=true from by simp[lowC,hs1]];simp)
  exact Z2
 case neg=>
 by_cases ht0:tok<1
 case pos=>
  have HR:Hid (mayC ⟨5,fam,ser,tok,cli,[],[],[],[],[],[],false,0⟩=false):=Lib.hid (by unfold mayC;rw[show tokC ⟨5,fam,ser,tok,cli,[],[],[],[],[],[],false,0⟩=true from by simp[tokC,ht0]];simp)
  exact Z2
 case neg=>
 by_cases ht1:3<tok
 case pos=>
  have HR:Hid (mayC ⟨5,fam,ser,tok,cli,[],[],[],[],[],[],false,0⟩=false):=Lib.hid (by unfold mayC;rw[show tokC ⟨5,fam,ser,tok,cli,[],[],[],[],[],[],false,0⟩=true from by simp[tokC,ht1]];simp)
  exact Z2
 case neg=>
 have HR:Hid (mayC ⟨5,fam,ser,tok,cli,[],[],[],[],[],[],false,0⟩=shownC [] []):=Lib.hid (by
  have q1:=HQ1.out;have q2:=HQ2.out;have q3:=HQ3.out
  have g1:odd ⟨5,fam,ser,tok,cli,[],[],[],[],[],[],false,0⟩=false:=by simp[odd]
  have g2:lowC ⟨5,fam,ser,tok,cli,[],[],[],[],[],[],false,0⟩=false:=by simp[lowC,HCLI.out,hs0,hs1]
  have g3:tokC ⟨5,fam,ser,tok,cli,[],[],[],[],[],[],false,0⟩=false:=by simp[tokC,ht0,ht1]
  have g4:tooC ⟨5,fam,ser,tok,cli,[],[],[],[],[],[],false,0⟩=false:=q3
  unfold mayC;rw[g1,g2,g3,g4];simp[q1,q2,scd])
 have HSH:=Lib.hid (gshown_any [] [] W5 Z93)
 have c0:=HM6.out.z.cell 0 rfl
 have c2:=HM6.out.z.cell 2 rfl
 have c3:=HM6.out.z.cell 3 rfl
 have c4:=HM6.out.z.cell 4 rfl
 have c5:=HM6.out.z.cell 5 rfl
 have c7:=HM6.out.z.cell 7 rfl
 have c8:=HM6.out.z.cell 8 rfl
 have c9:=HM6.out.z.cell 9 rfl
 have c10:=HM6.out.z.cell 10 rfl
 have c11:=HM6.out.z.cell 11 rfl
 have c12:=HM6.out.z.cell 12 rfl
 have r0:=HM6.out.r.cell 0 rfl
 have r2:=HM6.out.r.cell 2 rfl
 have r3:=HM6.out.r.cell 3 rfl
 have r4:=HM6.out.r.cell 4 rfl
 have r5:=HM6.out.r.cell 5 rfl
 have r7:=HM6.out.r.cell 7 rfl
 have r8:=HM6.out.r.cell 8 rfl
 have r9:=HM6.out.r.cell 9 rfl
 have r10:=HM6.out.r.cell 10 rfl
 have r11:=HM6.out.r.cell 11 rfl
 have r12:=HM6.out.r.cell 12 rfl
 go_wp2_with fail
 refine HSH.out.mono ?_
 rintro e w7 ⟨rfl,hb7⟩
 have HB7:=Lib.hid (Se.below_step HM6.out.b hb7)
 clear hb7
 go_wp2_with fail
 go_ret
 exact⟨Z28,HB7.out⟩
end Go.Proofs.YtdmjegelcdghlaaGreat.Gr
