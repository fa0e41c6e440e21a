/-
  Chapters 17, 20: grant.May at every command; reply.fits (that it answers).
-/
import Derived.Test.YtdmjegelcdghlaaGreatGRd
import Derived.Test.YtdmjegelcdghlaaGreatGRg
import Derived.Test.YtdmjegelcdghlaaGreatGRh
import Derived.Test.YtdmjegelcdghlaaGreatGEe
import Derived.Test.YtdmjegelcdghlaaGreatGJs
import Derived.Test.YtdmjegelcdghlaaGreatGRa
import Derived.Test.YtdmjegelcdghlaaGreatGRc
set_option maxRecDepth 100000
set_option maxHeartbeats 64000000
set_option linter.unusedVariables false
set_option linter.unusedSimpArgs false
namespace Go.Proofs.YtdmjegelcdghlaaGreat.Gr
open Go.RowKit
theorem may_any (c:Cm)(sv:Value)(w:World)(hs:RdS w sv c.sco)(hc:CmOk c):
 Calls Tryz.prog 82 #[cmV c sv] w fun e w'=>e= .returned (.bool (mayC c))∧Below w.heap.size w w':=by
 by_cases h:1≤c.kd∧c.kd≤7
 case neg=>exact may_o c sv w h hs
 obtain h1|h1|h1|h1|h1|h1|h1:c.kd=1∨c.kd=2∨c.kd=3∨c.kd=4∨c.kd=5∨c.kd=6∨c.kd=7:=by omega
 ·exact may_1 c sv w h1 hs hc
 ·by_cases hn:c.sco= []
  ·exact may_2z c sv w h1 hn hs hc
  ·exact may_2n c sv w h1 hn hs hc
 ·exact may_3 c sv w h1 hs hc
 ·exact may_4 c sv w h1 hs hc
 ·by_cases hn:c.sco= []
  ·exact may_5z c sv w h1 hn hs hc
  ·exact may_5n c sv w h1 hn hs hc
 ·by_cases hn:c.sco= []
  ·exact may_6z c sv w h1 hn hs hc
  ·exact may_6n c sv w h1 hn hs hc
 ·by_cases hn:c.sco= []
  ·exact may_7z c sv w h1 hn hs hc
  ·exact may_7n c sv w h1 hn hs hc
end Go.Proofs.YtdmjegelcdghlaaGreat.Gr
namespace Go.Proofs.YtdmjegelcdghlaaGreat
theorem Z48 {p:Prop}(h:p:=by
 go_enter Tryz.func117,Tryz.ntmps117
 go_wp2_with fail
 go_ret
 exact⟨rfl,hbl⟩):p:=h
end Go.Proofs.YtdmjegelcdghlaaGreat
namespace Go.Proofs.YtdmjegelcdghlaaGreat.Se
open Go.RowKit
theorem rsign_any (c:UInt8)(w:World):Calls Tryz.prog 129 #[.int .u8 (c.toNat:Int)] w fun e w'=>e= .returned (.bool (sgn c))∧w'=w:=by
 have hc:=c.toNat_lt
 generalize hn:c.toNat=n at hc
 have hs:sgn c=((97≤n&&n≤122)||(65≤n&&n≤90)||(48≤n&&n≤57)||n==45||n==95):=by unfold sgn;rw[hn]
 rw[hs]
 clear hs hn
 go_enter Tryz.func129,Tryz.ntmps129
 exact Z159
theorem rright_any (t:Tk)(w:World)(hm:t.fam.length≤9223372036854775807):
 Calls Tryz.prog 117 #[tkv t] w fun e w'=>e= .returned (.bool (decide (Right t)))∧Below w.heap.size w w':=by
 obtain⟨kd,fam,ser⟩:=t
 simp only at hm
 have hB:Blk (w.alloc (.cells #[.int .i64 kd,.string ⟨fam.toArray⟩,.int .i64 ser] 139)) w.heap.size 139 [.int .i64 kd,.string ⟨fam.toArray⟩,.int .i64 ser]:=Blk.new w _ _
 have hbl:Below w.heap.size w (w.alloc (.cells #[.int .i64 kd,.string ⟨fam.toArray⟩,.int .i64 ser] 139)):=(Below.refl _ _).alloc (Nat.le_refl _) _
 show Calls _ _ #[.agg #[.int .i64 kd,.string ⟨fam.toArray⟩,.int .i64 ser]] w _
 have q1:=hB.cell 0 rfl
 have q2:=hB.cell 1 rfl
 have q3:=hB.cell 2 rfl
 clear hB
 have hsz:(⟨fam.toArray⟩:ByteArray).size=fam.length:=st_size fam
 have HR:=Lib.hid (right_split kd fam ser)
 by_cases hg:1≤kd∧kd≤3∧1≤fam.length∧fam.length≤32∧0≤ser∧ser≤1099511627776
 case neg=>
  have HD:Hid (decide (Right ⟨kd,fam,ser⟩)=false):=Lib.hid (decide_eq_false (fun h=>hg ⟨h.2.1,h.2.2.1,h.2.2.2.1,h.2.2.2.2.1,h.2.2.2.2.2.1,h.2.2.2.2.2.2⟩))
  rw[HD.out]
  have hor:(kd<1)∨(¬kd<1∧3<kd)∨(¬kd<1∧ ¬3<kd∧fam.length=0)∨(¬kd<1∧ ¬3<kd∧ ¬fam.length=0∧32<fam.length)∨(¬kd<1∧ ¬3<kd∧ ¬fam.length=0∧ ¬32<fam.length∧ser<0)∨(¬kd<1∧ ¬3<kd∧ ¬fam.length=0∧ ¬32<fam.length∧ ¬ser<0∧1099511627776<ser):=by omega
  clear hg
  rcases hor with h0|⟨h0,h1⟩|⟨h0,h1,h2⟩|⟨h0,h1,h2,h3⟩|⟨h0,h1,h2,h3,h4⟩|⟨h0,h1,h2,h3,h4,h5⟩
  ·have b0:decide (kd<1)=true:=by rw[decide_eq_true_iff];omega
   clear h0
   exact Z48
  ·have b0:decide (kd<1)=false:=by rw[decide_eq_false_iff_not];omega
   have b1:decide (3<kd)=true:=by rw[decide_eq_true_iff];omega
   clear h0 h1
   exact Z48
  ·have b0:decide (kd<1)=false:=by rw[decide_eq_false_iff_not];omega
   have b1:decide (3<kd)=false:=by rw[decide_eq_false_iff_not];omega
   have b2:((fam.length:Int)==0)=true:=by rw[beq_iff_eq];omega
   clear h0 h1 h2
   exact Z48
  ·have b0:decide (kd<1)=false:=by rw[decide_eq_false_iff_not];omega
   have b1:decide (3<kd)=false:=by rw[decide_eq_false_iff_not];omega
   have b2:((fam.length:Int)==0)=false:=by rw[beq_eq_false_iff_ne];omega
   have b3:decide ((32:Int)<(fam.length:Int))=true:=by rw[decide_eq_true_iff];omega
   clear h0 h1 h2 h3
   exact Z48
  ·have b0:decide (kd<1)=false:=by rw[decide_eq_false_iff_not];omega
   have b1:decide (3<kd)=false:=by rw[decide_eq_false_iff_not];omega
   have b2:((fam.length:Int)==0)=false:=by rw[beq_eq_false_iff_ne];omega
   have b3:decide ((32:Int)<(fam.length:Int))=false:=by rw[decide_eq_false_iff_not];omega
   have b4:decide (ser<0)=true:=by rw[decide_eq_true_iff];omega
   clear h0 h1 h2 h3 h4
   exact Z48
  ·have b0:decide (kd<1)=false:=by rw[decide_eq_false_iff_not];omega
   have b1:decide (3<kd)=false:=by rw[decide_eq_false_iff_not];omega
   have b2:((fam.length:Int)==0)=false:=by rw[beq_eq_false_iff_ne];omega
   have b3:decide ((32:Int)<(fam.length:Int))=false:=by rw[decide_eq_false_iff_not];omega
   have b4:decide (ser<0)=false:=by rw[decide_eq_false_iff_not];omega
   have b5:decide (1099511627776<ser)=true:=by rw[decide_eq_true_iff];omega
   clear h0 h1 h2 h3 h4 h5
   exact Z48
 case pos=>
  obtain⟨g1,g2,g3,g4,g5,g6⟩:=hg
  have HG:=Lib.hid (And.intro g1 (And.intro g2 (And.intro g3 (And.intro g4 (And.intro g5 g6)))))
  have b1:decide (kd<1)=false:=by rw[decide_eq_false_iff_not];omega
  have b2:decide (3<kd)=false:=by rw[decide_eq_false_iff_not];omega
  have b3:((fam.length:Int)==0)=false:=by rw[beq_eq_false_iff_ne];omega
  have b4:decide ((32:Int)<(fam.length:Int))=false:=by rw[decide_eq_false_iff_not];omega
  have b5:decide (ser<0)=false:=by rw[decide_eq_false_iff_not];omega
  have b6:decide (1099511627776<ser)=false:=by rw[decide_eq_false_iff_not];omega
  go_enter Tryz.func117,Tryz.ntmps117
  clear g1 g2 g3 g4 g5 g6
  go_wp2_with fail
  generalize w.alloc (.cells #[.int .i64 kd,.string ⟨fam.toArray⟩,.int .i64 ser] 139)=w0 at q1 q2 q3 hbl⊢
  go_loop [3] (fun i=> ∃k:Nat,k≤fam.length∧i= .int .i64 k∧(fam.take k).all sgn=true) (fun i=>fam.length-(intOf i).toNat)
  case atStart=>exact⟨0,Z11,rfl,rfl⟩
  case round=>
   obtain⟨k,hk,rfl,hall⟩:=hrel
   by_cases hlt:k<fam.length
   case pos=>
    obtain⟨c,hc⟩: ∃c,fam[k]=c:=⟨_,rfl⟩
    have hix:=ix_str ⟨fam.toArray⟩ k (by rw[hsz];exact hlt) c hc
    have k0:(k:Int)<(fam.length:Int):=by omega
    have HSG:=Lib.hid (rsign_any c)
    exact Z181
   case neg=>
    have hfa:fam.all sgn=true:=by rw[List.take_of_length_le Z11] at hall;exact hall
    have HFA:Hid (decide (Right ⟨kd,fam,ser⟩)=true):=Lib.hid (decide_eq_true ⟨hfa,HG.out⟩)
    have k1: ¬(k:Int)<(fam.length:Int):=by omega
    clear hfa hall
    go_wp2_with fail
    go_ret
    exact⟨ret_bool' HFA.out.symm,hbl⟩
end Go.Proofs.YtdmjegelcdghlaaGreat.Se
namespace Go.Proofs.YtdmjegelcdghlaaGreat.Gr
open Go.RowKit
theorem rid_any (f:By)(w:World)(hl:f.length≤140737488355000):
 Calls Tryz.prog 102 #[.string ⟨f.toArray⟩] w fun e w'=>e= .returned (.bool (idC f))∧Below w.heap.size w w':=by
 have H:=Lib.hid (fun w=>Se.rright_any ⟨1,f,0⟩ w (by show f.length≤_;omega))
 unfold Se.tkv at H
 go_enter Tryz.func102,Tryz.ntmps102
 go_wp2_with fail
 refine(H.out _).mono ?_
 rintro e w1 ⟨rfl,hb⟩
 have HB:=Lib.hid hb
 clear hb
 go_wp2_with fail
 go_ret
 exact⟨rfl,HB.out⟩
theorem rtexts_any (v:Value)(l:List By)(w:World)(h:RdS w v l)(hN:l.length≤1048576):
 Calls Tryz.prog 103 #[v] w fun e w'=>e= .returned (.bool (!l.any lng))∧Below w.heap.size w w':=by
 obtain⟨a,c,rfl⟩:=h.1.slice
 have HA:=Lib.hid h
 have HN:=Lib.hid hN
 clear h hN
 go_enter Tryz.func103,Tryz.ntmps103
 go_wp2_with fail
 go_loopw [3] (fun i wr=> ∃k:Nat,k≤l.length∧i= .int .i64 k∧wr=w∧(l.take k).any lng=false) (fun i _=>l.length-(intOf i).toNat)
 case atStart=>exact⟨0,Z11,rfl,rfl,rfl⟩
 case round=>
  obtain⟨k,hk,rfl,rfl,hno⟩:=hrel
  by_cases hkn:k<l.length
  case neg=>
   have HR:Hid ((!l.any lng)=true):=Lib.hid (by
    rw[List.take_of_length_le Z11] at hno
    rw[hno];rfl)
   clear hno
   exact Z203
  case pos=>
  obtain⟨b1,o1,cap1,e1,hcap1,hc1⟩:=HA.out.1.pos Z11
  cases e1
  obtain⟨x,hx⟩: ∃x,l[k]?=some x:=⟨_,List.getElem?_eq_getElem hkn⟩
  have q1:wr.cell? ⟨b1,o1+k,none⟩=some (.string ⟨x.toArray⟩):=hc1 k (sv x) Z75
  have g1:(k:Int)<(l.length:Int):=by omega
  have hsz:(⟨x.toArray⟩:ByteArray).size=x.length:=st_size x
  have HX:=Lib.hid (And.intro hx hno)
  clear hc1 hx hno
  by_cases hb:128<x.length
  case pos=>
   have t1:(128:Int)<(x.length:Int):=by omega
   have HR:Hid ((!l.any lng)=false):=Lib.hid (by
    have:l.any lng=true:=List.any_eq_true.2 ⟨x,List.mem_of_getElem? HX.out.1,by unfold lng;exact decide_eq_true hb⟩
    rw[this];rfl)
   exact Z203
  case neg=>
   have t1: ¬(128:Int)<(x.length:Int):=by omega
   have hn9:l.length≤1048576:=HN.out
   have HR:Hid ((l.take (k+1)).any lng=false):=Lib.hid (by
    rw[List.take_add_one,HX.out.1,List.any_append,HX.out.2]
    show(false||([x].any lng))=false
    simp[lng]
    omega)
   go_wp2_with fail
   go_roundw
   case rel=>exact⟨k+1,Z11,Z81,trivial,HR.out⟩
   case measure=>simp[intOf];omega
theorem rset17_any (v:Value)(l:List By)(w:World)(h:RdS w v l)(hN:l.length≤1048576):
 Calls Tryz.prog 104 #[v] w fun e w'=>e= .returned (.bool (setC l))∧Below w.heap.size w w':=by
 obtain⟨a,c,rfl⟩:=h.1.slice
 have HS:=Lib.hid (rset_any (.slice a l.length c) l w h hN)
 have HA:=Lib.hid h
 have HN:=Lib.hid hN
 clear h hN
 go_enter Tryz.func104,Tryz.ntmps104
 by_cases hlen:l.length≤32
 case neg=>
  have t1: ¬(l.length:Int)≤32:=by omega
  have HR:Hid (setC l=false):=Lib.hid (by unfold setC;rw[decide_eq_false hlen];rfl)
  clear hlen
  exact Z203
 have t1:(l.length:Int)≤32:=by omega
 have HLEN:=Lib.hid hlen
 clear hlen
 go_wp2_with fail
 refine HS.out.mono ?_
 rintro e w1 ⟨v1,rfl,ho1,hb1⟩
 have hr1:RdS w1 v1 (Sc.set l):=ho1.rd fun x hx=>set_short hx
 obtain⟨a1,c1,e1⟩:=hr1.1.slice
 subst e1
 have hr2:RdS w1 (.slice a l.length c) l:=⟨HA.out.1.below hb1,HA.out.2⟩
 have hsl:=Sc.set_len l
 have HSM:=Lib.hid (same_any (.slice a1 (Sc.set l).length c1) (.slice a l.length c) (Sc.set l) l w1 hr1 hr2 (by have:=HN.out;omega))
 have HB1:=Lib.hid hb1
 clear ho1 hb1 hr1 hr2 hsl
 go_wp2_with fail
 refine HSM.out.mono ?_
 rintro e w2 ⟨rfl,hb2⟩
 have HB2:=Lib.hid (HB1.out.trans (hb2.mono HB1.out.size))
 clear hb2
 by_cases hsm:Sc.set l=l
 case neg=>
  have HR:Hid (setC l=false):=Lib.hid (by unfold setC;rw[decide_eq_false hsm,Bool.false_and,Bool.and_false])
  have t2:decide (Sc.set l=l)=false:=decide_eq_false hsm
  rw[t2]
  clear hsm t2
  go_wp2_with fail
  go_ret
  exact⟨Z28,HB2.out⟩
 have t2:decide (Sc.set l=l)=true:=decide_eq_true hsm
 rw[t2]
 have HP:=Lib.hid (rprint_any (.slice a l.length c) l w2 ⟨HA.out.1.below HB2.out,HA.out.2⟩ HN.out)
 have HSQ:=Lib.hid hsm
 clear hsm t2
 go_wp2_with fail
 refine HP.out.mono ?_
 rintro e w3 ⟨rfl,hb3⟩
 have HB3:=Lib.hid (HB2.out.trans (hb3.mono HB2.out.size))
 clear hb3
 obtain⟨t,ht⟩: ∃t,t=Sc.join (Sc.set l):=⟨_,rfl⟩
 have hsz:(⟨t.toArray⟩:ByteArray).size=t.length:=st_size t
 have HR:Hid (setC l=decide (t.length≤128)):=Lib.hid (by unfold setC;rw[decide_eq_true HLEN.out,decide_eq_true HSQ.out,←ht];rfl)
 rw[←ht]
 clear ht
 have HDE:Hid (decide ((t.length:Int)≤128)=decide (t.length≤128)):=Lib.hid (decide_eq_decide.2 Z11)
 go_wp2_with fail
 go_ret
 refine⟨?_,HB3.out⟩
 show Ending.returned (.bool (decide ((t.length:Int)≤128)))=_
 rw[HDE.out,HR.out]
end Go.Proofs.YtdmjegelcdghlaaGreat.Gr
