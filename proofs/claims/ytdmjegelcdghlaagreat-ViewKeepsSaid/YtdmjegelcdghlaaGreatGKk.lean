/-
  Chapter 22: the reference's Same, of what is the same.
-/
import Derived.Test.YtdmjegelcdghlaaGreatGDs
import Derived.Test.YtdmjegelcdghlaaGreatGGen
set_option maxRecDepth 100000
set_option maxHeartbeats 64000000
set_option linter.unusedVariables false
set_option linter.unusedSimpArgs false
namespace Go.Proofs.YtdmjegelcdghlaaGreat.Vw
open Go.RowKit Go.Maps
theorem tx_same (va vb:Value)(l:List (List UInt8))(w:World)(ha:RdS w va l)(hb:RdS w vb l)(hl:l.length≤4611686018427387904):
 Calls Tryz.prog 91 #[va,vb] w fun e w'=>e= .returned (.bool true)∧Below w.heap.size w w':=by
 obtain⟨a1,c1,rfl⟩:=ha.1.slice
 obtain⟨a2,c2,rfl⟩:=hb.1.slice
 have HA:=Lib.hid ha
 have HB:=Lib.hid hb
 clear ha hb
 go_enter Tryz.func91,Tryz.ntmps91
 go_wp2_with fail
 go_loopw [5] (fun i wr=> ∃k:Nat,k≤l.length∧i= .int .i64 k∧Below w.heap.size w wr) (fun i _=>l.length-(intOf i).toNat)
 case atStart=>exact⟨0,Z11,rfl,Below.refl _ _⟩
 case round=>
  obtain⟨k,hk,rfl,hb⟩:=hrel
  by_cases hkn:k<l.length
  case neg=>
   go_wp2_with fail
   go_ret
   exact⟨rfl,hb⟩
  case pos=>
  obtain⟨b1,o1,cap1,e1,hcap1,hc1⟩:=(HA.out.1.below hb).pos Z11
  obtain⟨b2,o2,cap2,e2,hcap2,hc2⟩:=(HB.out.1.below hb).pos Z11
  cases e1
  cases e2
  obtain⟨x,hx⟩: ∃x,l[k]?=some x:=⟨_,List.getElem?_eq_getElem hkn⟩
  have q1:wr.cell? ⟨b1,o1+k,none⟩=some (.string ⟨x.toArray⟩):=hc1 k (sv x) Z75
  have q2:wr.cell? ⟨b2,o2+k,none⟩=some (.string ⟨x.toArray⟩):=hc2 k (sv x) Z75
  have g1:(k:Int)<(l.length:Int):=by omega
  clear hc1 hc2 hx
  go_wp2_with fail
  go_quiet (fail)
  go_wp2_with fail
  go_roundw
  case rel=>exact⟨k+1,Z11,Z81,below_drewN hb _⟩
  case measure=>simp[intOf];omega
def cmV (c:Gr.Cm)(u:Value):Value:= .agg #[.int .i64 c.kd,.string ⟨c.fam.toArray⟩,.int .i64 c.ser,.int .i64 c.tok,.string ⟨c.cli.toArray⟩,.string ⟨c.usr.toArray⟩,u,.string ⟨c.red.toArray⟩,.string ⟨c.cha.toArray⟩,.string ⟨c.met.toArray⟩,.string ⟨c.ver.toArray⟩,.bool c.rf,.int .i64 c.edg]
theorem cm_same (c:Gr.Cm)(u v:Value)(w:World)(hu:RdS w u c.sco)(hv:RdS w v c.sco)(hl:c.sco.length≤2000000):
 Calls Tryz.prog 61 #[cmV c u,cmV c v] w fun e w'=>e= .returned (.bool true)∧Below w.heap.size w w':=by
 obtain⟨a1,c1,rfl⟩:=hu.1.slice
 obtain⟨a2,c2,rfl⟩:=hv.1.slice
 have HT:=Lib.hid (fun W (hb:Below w.heap.size w W)=>tx_same (.slice a1 c.sco.length c1) (.slice a2 c.sco.length c2) c.sco W (rdS_low hu fun h0 g hg hlt=>hb.block g hlt) (rdS_low hv fun h0 g hg hlt=>hb.block g hlt) Z11)
 clear hu hv hl
 unfold cmV
 go_enter Tryz.func61,Tryz.ntmps61
 go_wp2_with fail
 have hs1:(w.alloc (.cells #[.int .i64 c.kd,.string ⟨c.fam.toArray⟩,.int .i64 c.ser,.int .i64 c.tok,.string ⟨c.cli.toArray⟩,.string ⟨c.usr.toArray⟩,.slice a1 c.sco.length c1,.string ⟨c.red.toArray⟩,.string ⟨c.cha.toArray⟩,.string ⟨c.met.toArray⟩,.string ⟨c.ver.toArray⟩,.bool c.rf,.int .i64 c.edg] 24)).heap.size=w.heap.size+1:=World.size_alloc _ _
 have hba:Blk ((w.alloc (.cells #[.int .i64 c.kd,.string ⟨c.fam.toArray⟩,.int .i64 c.ser,.int .i64 c.tok,.string ⟨c.cli.toArray⟩,.string ⟨c.usr.toArray⟩,.slice a1 c.sco.length c1,.string ⟨c.red.toArray⟩,.string ⟨c.cha.toArray⟩,.string ⟨c.met.toArray⟩,.string ⟨c.ver.toArray⟩,.bool c.rf,.int .i64 c.edg] 24)).alloc (.cells #[.int .i64 c.kd,.string ⟨c.fam.toArray⟩,.int .i64 c.ser,.int .i64 c.tok,.string ⟨c.cli.toArray⟩,.string ⟨c.usr.toArray⟩,.slice a2 c.sco.length c2,.string ⟨c.red.toArray⟩,.string ⟨c.cha.toArray⟩,.string ⟨c.met.toArray⟩,.string ⟨c.ver.toArray⟩,.bool c.rf,.int .i64 c.edg] 24)) w.heap.size 24 [.int .i64 c.kd,.string ⟨c.fam.toArray⟩,.int .i64 c.ser,.int .i64 c.tok,.string ⟨c.cli.toArray⟩,.string ⟨c.usr.toArray⟩,.slice a1 c.sco.length c1,.string ⟨c.red.toArray⟩,.string ⟨c.cha.toArray⟩,.string ⟨c.met.toArray⟩,.string ⟨c.ver.toArray⟩,.bool c.rf,.int .i64 c.edg]:=(Blk.new w 24 _).alloc _
 have hbb:Blk ((w.alloc (.cells #[.int .i64 c.kd,.string ⟨c.fam.toArray⟩,.int .i64 c.ser,.int .i64 c.tok,.string ⟨c.cli.toArray⟩,.string ⟨c.usr.toArray⟩,.slice a1 c.sco.length c1,.string ⟨c.red.toArray⟩,.string ⟨c.cha.toArray⟩,.string ⟨c.met.toArray⟩,.string ⟨c.ver.toArray⟩,.bool c.rf,.int .i64 c.edg] 24)).alloc (.cells #[.int .i64 c.kd,.string ⟨c.fam.toArray⟩,.int .i64 c.ser,.int .i64 c.tok,.string ⟨c.cli.toArray⟩,.string ⟨c.usr.toArray⟩,.slice a2 c.sco.length c2,.string ⟨c.red.toArray⟩,.string ⟨c.cha.toArray⟩,.string ⟨c.met.toArray⟩,.string ⟨c.ver.toArray⟩,.bool c.rf,.int .i64 c.edg] 24)) (w.heap.size+1) 24 [.int .i64 c.kd,.string ⟨c.fam.toArray⟩,.int .i64 c.ser,.int .i64 c.tok,.string ⟨c.cli.toArray⟩,.string ⟨c.usr.toArray⟩,.slice a2 c.sco.length c2,.string ⟨c.red.toArray⟩,.string ⟨c.cha.toArray⟩,.string ⟨c.met.toArray⟩,.string ⟨c.ver.toArray⟩,.bool c.rf,.int .i64 c.edg]:=by
  rw[←hs1];exact Blk.new (w.alloc (.cells #[.int .i64 c.kd,.string ⟨c.fam.toArray⟩,.int .i64 c.ser,.int .i64 c.tok,.string ⟨c.cli.toArray⟩,.string ⟨c.usr.toArray⟩,.slice a1 c.sco.length c1,.string ⟨c.red.toArray⟩,.string ⟨c.cha.toArray⟩,.string ⟨c.met.toArray⟩,.string ⟨c.ver.toArray⟩,.bool c.rf,.int .i64 c.edg] 24)) 24 _
 have hb0:Below w.heap.size w ((w.alloc (.cells #[.int .i64 c.kd,.string ⟨c.fam.toArray⟩,.int .i64 c.ser,.int .i64 c.tok,.string ⟨c.cli.toArray⟩,.string ⟨c.usr.toArray⟩,.slice a1 c.sco.length c1,.string ⟨c.red.toArray⟩,.string ⟨c.cha.toArray⟩,.string ⟨c.met.toArray⟩,.string ⟨c.ver.toArray⟩,.bool c.rf,.int .i64 c.edg] 24)).alloc (.cells #[.int .i64 c.kd,.string ⟨c.fam.toArray⟩,.int .i64 c.ser,.int .i64 c.tok,.string ⟨c.cli.toArray⟩,.string ⟨c.usr.toArray⟩,.slice a2 c.sco.length c2,.string ⟨c.red.toArray⟩,.string ⟨c.cha.toArray⟩,.string ⟨c.met.toArray⟩,.string ⟨c.ver.toArray⟩,.bool c.rf,.int .i64 c.edg] 24)):=((Below.refl _ _).alloc (Nat.le_refl _) _).alloc (by rw[hs1];exact Nat.le_succ _) _
 have HQ:=Lib.hid (And.intro hba (And.intro hbb hb0))
 clear hba hbb hb0 hs1
 obtain⟨q1,hq1⟩: ∃q1,q1=w.heap.size+1:=⟨_,rfl⟩
 rw[←hq1] at HQ
 try rw[←hq1]
 clear hq1
 generalize (w.alloc (.cells #[.int .i64 c.kd,.string ⟨c.fam.toArray⟩,.int .i64 c.ser,.int .i64 c.tok,.string ⟨c.cli.toArray⟩,.string ⟨c.usr.toArray⟩,.slice a1 c.sco.length c1,.string ⟨c.red.toArray⟩,.string ⟨c.cha.toArray⟩,.string ⟨c.met.toArray⟩,.string ⟨c.ver.toArray⟩,.bool c.rf,.int .i64 c.edg] 24)).alloc (.cells #[.int .i64 c.kd,.string ⟨c.fam.toArray⟩,.int .i64 c.ser,.int .i64 c.tok,.string ⟨c.cli.toArray⟩,.string ⟨c.usr.toArray⟩,.slice a2 c.sco.length c2,.string ⟨c.red.toArray⟩,.string ⟨c.cha.toArray⟩,.string ⟨c.met.toArray⟩,.string ⟨c.ver.toArray⟩,.bool c.rf,.int .i64 c.edg] 24)=wq at*
 refine(HT.out wq HQ.out.2.2).mono ?_
 rintro e w3 ⟨rfl,hb3⟩
 have HB3:=Lib.hid (HQ.out.2.2.trans (hb3.mono HQ.out.2.2.size))
 have hA:=HQ.out.1.below hb3 HQ.out.1.lt
 have hB:=HQ.out.2.1.below hb3 HQ.out.2.1.lt
 have u7:=hA.cell 7 rfl
 have v7:=hB.cell 7 rfl
 have u8:=hA.cell 8 rfl
 have v8:=hB.cell 8 rfl
 have u9:=hA.cell 9 rfl
 have v9:=hB.cell 9 rfl
 have u10:=hA.cell 10 rfl
 have v10:=hB.cell 10 rfl
 have u11:=hA.cell 11 rfl
 have v11:=hB.cell 11 rfl
 have u12:=hA.cell 12 rfl
 have v12:=hB.cell 12 rfl
 clear hA hB hb3
 go_wp2_with fail
 go_ret
 exact⟨rfl,HB3.out⟩
theorem op_same (o:Op)(u v:Value)(w:World)(hu:RdS w u o.c.sco)(hv:RdS w v o.c.sco)(hl:o.c.sco.length≤2000000):
 Calls Tryz.prog 29 #[opV o u,opV o v] w fun e w'=>e= .returned (.bool true)∧Below w.heap.size w w':=by
 obtain⟨a1,c1,rfl⟩:=hu.1.slice
 obtain⟨a2,c2,rfl⟩:=hv.1.slice
 have HT:=Lib.hid (fun W (hb:Below w.heap.size w W)=>cm_same o.c (.slice a1 o.c.sco.length c1) (.slice a2 o.c.sco.length c2) W (rdS_low hu fun h0 g hg hlt=>hb.block g hlt) (rdS_low hv fun h0 g hg hlt=>hb.block g hlt) hl)
 clear hu hv hl
 unfold cmV at HT
 unfold opV
 go_enter Tryz.func29,Tryz.ntmps29
 go_wp2_with fail
 refine(HT.out _ (((Below.refl _ _).alloc (Nat.le_refl _) _).alloc (by rw[World.size_alloc];exact Nat.le_succ _) _)).mono ?_
 rintro e w3 ⟨rfl,hb3⟩
 have HB3:Hid (Below w.heap.size w w3):=Lib.hid ((((Below.refl w.heap.size w).alloc (Nat.le_refl _) _).alloc (by rw[World.size_alloc];exact Nat.le_succ _) _).trans (hb3.mono (by rw[World.size_alloc,World.size_alloc];omega)))
 clear hb3
 go_wp2_with fail
 go_ret
 exact⟨rfl,HB3.out⟩
open Go.RowKit Go.Maps
theorem SlR.at {li lo:Nat}{c:Lb}{w:World}{v:Value}{l:List Op}(h:SlR (opE li) c lo w v l){k:Nat}{o:Op}(hk:l[k]?=some o):
 ∃b off cap ua uc,v= .slice (some ⟨b,off,none⟩) l.length cap∧RdS w (.slice ua o.c.sco.length uc) o.c.sco∧Gr.CmOk o.c∧ ∀W,Below w.heap.size w W→ ∀(q:Nat) x,(opC o (.slice ua o.c.sco.length uc))[q]?=some x→W.cell? ⟨b,off+k*16+q,none⟩=some x:=by
 obtain⟨b,off,cap,u,hv,hin,hc⟩:=h.get (opE_ok li) hk
 have hin':TxA li c w u o:=hin
 obtain⟨ua,uc,e⟩:=hin'.rd.1.slice
 subst e
 refine⟨b,off,cap,ua,uc,hv,hin'.rd,hin'.ok,fun W hb q x hx=> ?_⟩
 have h1:=hc q x hx
 have h2:=World.block_lt_of_cell? w _ h1
 have h3:=hb.block _ h2
 simp only[World.cell?,h3] at h1⊢
 exact h1
structure Mz where
 kd:Int
 fr:Int
 vw:Int
 nr:Int
 ao:Int
 ops:List Op
 cm:Int
 sb:Int
 ls:Int
def bareZ (m:Mz):Bool:=decide (m.ao=0)&&decide ((m.ops.length:Int)=0)&&decide (m.cm=0)
def mayZ (r:Rp Op)(m:Mz):Bool:=
 decide (0≤m.fr)&&decide (m.fr<r.n)&&decide (m.fr≠r.id)&&decide (0≤m.vw)&&decide (m.vw≤1099511627776)&&m.ops.all mayO&&
 decide (0≤m.ao)&&decide (m.ao≤1099511627776)&&decide (0≤m.cm)&&decide (m.cm≤m.ao+m.ops.length)&&
 decide (m.kd=1∨m.sb=0)&&decide (m.kd=2∨m.ls=0)&&decide (m.kd=4∨m.nr=0)&&
 (if m.kd=1 then decide (m.fr=m.vw % r.n)&&decide (0≤m.sb)&&decide (m.sb≤m.cm)
  else if m.kd=2 then bareZ m&&decide (0≤m.ls)&&decide (m.ls≤1099511627776)
  else if m.kd=4 then decide ((r.id:Int)=m.vw % r.n)&&decide (0≤m.nr)&&decide (m.nr≤m.vw)&&decide (m.ao≤m.cm)
  else if m.kd=5 then decide (m.fr=m.vw % r.n)&&decide (m.ao≤m.cm)
  else if m.kd=3∨m.kd=6 then bareZ m
  else false)
theorem mayZ_no {r:Rp Op}{m:Mz}(h:m.fr<0∨(r.n:Int)≤m.fr∨m.fr=r.id∨m.vw<0∨1099511627776<m.vw∨m.ops.all mayO=false∨m.ao<0∨1099511627776<m.ao∨m.cm<0∨m.ao+m.ops.length<m.cm∨(m.kd≠1∧m.sb≠0)∨(m.kd≠2∧m.ls≠0)∨(m.kd≠4∧m.nr≠0)):mayZ r m=false:=by
 unfold mayZ
 rcases h with h|h|h|h|h|h|h|h|h|h|h|h|h
 ·rw[decide_eq_false (show¬0≤m.fr by omega)];simp
 ·rw[decide_eq_false (show¬m.fr<(r.n:Int) by omega)];simp
 ·rw[decide_eq_false (show¬m.fr≠(r.id:Int) from fun g=>g h)];simp
 ·rw[decide_eq_false (show¬0≤m.vw by omega)];simp
 ·rw[decide_eq_false (show¬m.vw≤1099511627776 by omega)];simp
 ·rw[h];simp
 ·rw[decide_eq_false (show¬0≤m.ao by omega)];simp
 ·rw[decide_eq_false (show¬m.ao≤1099511627776 by omega)];simp
 ·rw[decide_eq_false (show¬0≤m.cm by omega)];simp
 ·rw[decide_eq_false (show¬m.cm≤m.ao+m.ops.length by omega)];simp
 ·rw[decide_eq_false (show¬(m.kd=1∨m.sb=0) by omega)];simp
 ·rw[decide_eq_false (show¬(m.kd=2∨m.ls=0) by omega)];simp
 ·rw[decide_eq_false (show¬(m.kd=4∨m.nr=0) by omega)];simp
def tailZ (r:Rp Op)(m:Mz):Bool:=
 if m.kd=1 then decide (m.fr=m.vw % r.n)&&decide (0≤m.sb)&&decide (m.sb≤m.cm)
  else if m.kd=2 then bareZ m&&decide (0≤m.ls)&&decide (m.ls≤1099511627776)
  else if m.kd=4 then decide ((r.id:Int)=m.vw % r.n)&&decide (0≤m.nr)&&decide (m.nr≤m.vw)&&decide (m.ao≤m.cm)
  else if m.kd=5 then decide (m.fr=m.vw % r.n)&&decide (m.ao≤m.cm)
  else if m.kd=3∨m.kd=6 then bareZ m
  else false
theorem mayZ_yes {r:Rp Op}{m:Mz}(h0:0≤m.fr)(h1:m.fr<r.n)(h2:m.fr≠r.id)(h3:0≤m.vw)(h4:m.vw≤1099511627776)(h5:m.ops.all mayO=true)(h6:0≤m.ao)(h7:m.ao≤1099511627776)(h8:0≤m.cm)(h9:m.cm≤m.ao+m.ops.length)(ha:m.kd=1∨m.sb=0)(hb:m.kd=2∨m.ls=0)(hc:m.kd=4∨m.nr=0):mayZ r m=tailZ r m:=by
 unfold mayZ tailZ
 rw[decide_eq_true h0,decide_eq_true h1,decide_eq_true h2,decide_eq_true h3,decide_eq_true h4,h5,decide_eq_true h6,decide_eq_true h7,decide_eq_true h8,decide_eq_true h9,decide_eq_true ha,decide_eq_true hb,decide_eq_true hc]
 simp only[Bool.true_and]
def Ms.z (m:Ms Op):Mz:=⟨m.kd,m.fr,m.vw,m.nr,m.ao,m.ops,m.cm,m.sb,m.ls⟩
end Go.Proofs.YtdmjegelcdghlaaGreat.Vw
namespace Go.Proofs.YtdmjegelcdghlaaGreat
theorem Z57 {p:Prop}(h:p:=by simp only[Bool.and_eq_true,decide_eq_true_eq];constructor<;>(intro h;omega)):p:=h
end Go.Proofs.YtdmjegelcdghlaaGreat
namespace Go.Proofs.YtdmjegelcdghlaaGreat.Vw
theorem mod_cast' (a b:Nat):((a:Int)%(b:Int))=((a % b:Nat):Int):=by omega
theorem mayZ_z' (r:Rp Op)(kd fr vw nr ao cm sb ls:Nat)(ops:List Op):mayZ r ⟨kd,fr,vw,nr,ao,ops,cm,sb,ls⟩=mayM mayO r ⟨kd,fr,vw,nr,ao,ops,cm,sb,ls⟩:=by
 have e: ∀a b:Bool,(a=true↔b=true)→a=b:=fun a b h=>by cases a<;>cases b<;>simp_all
 have hTM:TM=1099511627776:=rfl
 refine e _ _ ?_
 have hem:ops.isEmpty=decide (ops.length=0):=by cases ops<;>simp
 unfold mayZ mayM bareZ bare
 simp only[Bool.and_eq_true,Bool.or_eq_true,decide_eq_true_eq,mod_cast',hem]
 have k1:((kd:Int)=1)↔kd=1:=by omega
 have k2:((kd:Int)=2)↔kd=2:=by omega
 have k3:((kd:Int)=3)↔kd=3:=by omega
 have k4:((kd:Int)=4)↔kd=4:=by omega
 have k5:((kd:Int)=5)↔kd=5:=by omega
 have k6:((kd:Int)=6)↔kd=6:=by omega
 simp only[k1,k2,k3,k4,k5,k6]
 generalize vw % r.n=pm
 rw[hTM]
 cases ops.all mayO
 ·simp
 simp only[and_true,true_and]
 split
 ·exact Z57
 split
 ·exact Z57
 split
 ·exact Z57
 split
 ·exact Z57
 split
 ·exact Z57
 simp
theorem mayZ_z (r:Rp Op)(q:Ms Op):mayZ r q.z=mayM mayO r q:=mayZ_z' r q.kd q.fr q.vw q.nr q.ao q.cm q.sb q.ls q.ops
end Go.Proofs.YtdmjegelcdghlaaGreat.Vw
