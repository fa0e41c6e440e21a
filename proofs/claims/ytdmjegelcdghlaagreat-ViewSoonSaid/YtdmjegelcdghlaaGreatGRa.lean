/-
  Chapter 17: grant.texts, slices.Equal of texts, grant.set. Printed by gen_grant_base.py.
-/
import Derived.Test.YtdmjegelcdghlaaGreatGApp
import Derived.Deep.QuietTactic
import Derived.BigQuiet
import Derived.Test.YtdmjegelcdghlaaGreatGGen
set_option maxRecDepth 100000
set_option maxHeartbeats 64000000
set_option linter.unusedVariables false
set_option linter.unusedSimpArgs false
namespace Go.Proofs.YtdmjegelcdghlaaGreat
theorem Z220 {p:Prop}(h:p:=by
 rw[if_pos ha]
 congr 1
 rw[List.findIdx_eq hk]
 exact⟨hp,fun j hj=>by have:=h j _ hj (List.getElem?_eq_getElem Z11);simpa using this⟩):p:=h
theorem Z203 {p:Prop}(h:p:=by
 go_wp2_with fail
 go_ret
 exact⟨Z28,Below.refl _ _⟩):p:=h
theorem Z104 {p:Prop}(h:p:=by
 rw[if_neg]
 intro ha
 obtain⟨x,hx,hp⟩:=List.any_eq_true.1 ha
 obtain⟨j,hj⟩:=List.getElem?_of_mem hx
 rw[h j x hj] at hp;cases hp):p:=h
theorem Z75 {p:Prop}(h:p:=by rw[List.getElem?_map,hx];rfl):p:=h
theorem Z28 {p:Prop}(h:p:=by rw[HR.out];rfl):p:=h
end Go.Proofs.YtdmjegelcdghlaaGreat
namespace Go.Proofs.YtdmjegelcdghlaaGreat.Gr
open Go.RowKit
abbrev By:=List UInt8
def lng (x:List UInt8):Bool:=decide (128<x.length)
theorem long_any (x:List UInt8)(w:World)(hx:x.length≤9223372036854775807):
 Calls Tryz.prog 114 #[.string ⟨x.toArray⟩] w fun e w'=>e= .returned (.bool (lng x))∧w=w':=by
 have hsz:=st_size x
 have HL:Hid (lng x=decide (128<x.length)):=Lib.hid rfl
 go_enter Tryz.func114,Tryz.ntmps114
 go_wp2_with fail
 go_ret
 refine⟨?_,rfl⟩
 rw[HL.out]
 by_cases h:128<x.length
 ·rw[decide_eq_true h,decide_eq_true Z11];rfl
 ·rw[decide_eq_false h,decide_eq_false Z11];rfl
def idxP (p:List UInt8→Bool)(l:List (List UInt8)):Int:=if l.any p then(l.findIdx p:Nat) else-1
theorem idxP_hit (p:List UInt8→Bool)(l:List (List UInt8))(k:Nat)(x:List UInt8)(hx:l[k]?=some x)(hp:p x=true)(h: ∀j y,j<k→l[j]?=some y→p y=false):idxP p l=k:=by
 obtain⟨hk,rfl⟩:=List.getElem?_eq_some_iff.1 hx
 have ha:l.any p=true:=List.any_eq_true.2 ⟨_,List.getElem_mem hk,hp⟩
 unfold idxP
 exact Z220
theorem idxP_miss (p:List UInt8→Bool)(l:List (List UInt8))(h: ∀(j:Nat) y,l[j]?=some y→p y=false):idxP p l= -1:=by
 unfold idxP
 exact Z104
theorem index_any (v:Value)(l:List (List UInt8))(w:World)(h:RdS w v l)(hN:l.length≤1048576):
 Calls Tryz.prog 125 #[v,.func (Fn.func 114) #[] #[]] w fun e w'=>e= .returned (.int .i64 (idxP lng l))∧w=w':=by
 obtain⟨a,c,rfl⟩:=h.1.slice
 have HH:=Lib.hid h
 clear h
 go_enter Tryz.func125,Tryz.ntmps125
 go_wp2_with fail
 go_loop [8] (fun i=> ∃k:Nat,k≤l.length∧i= .int .i64 k∧ ∀j y,j<k→l[j]?=some y→lng y=false) (fun i=>l.length-(intOf i).toNat)
 case atStart=>exact⟨0,Z11,rfl,fun j y hj=>Z11⟩
 case round=>
  obtain⟨k,hk,rfl,hall⟩:=hrel
  have HA:=Lib.hid hall
  clear hall
  by_cases hkn:k<l.length
  case neg=>
   have hk':k=l.length:=by omega
   subst hk'
   have HM:=Lib.hid (idxP_miss lng l (fun j y hj=>HA.out j y (by have:=(List.getElem?_eq_some_iff.1 hj).1;omega) hj))
   go_wp2_with fail
   go_ret
   exact⟨by rw[HM.out];rfl,rfl⟩
  case pos=>
  obtain⟨b,o,cap,e1,hcap,hc⟩:=HH.out.1.pos Z11
  cases e1
  obtain⟨x,hx⟩: ∃x,l[k]?=some x:=⟨_,List.getElem?_eq_getElem hkn⟩
  have q0:=hc k (sv x) Z75
  have hxl:=HH.out.2 x (List.mem_of_getElem? hx)
  have HW:=Lib.hid (long_any x · hxl)
  have HX:=Lib.hid hx
  have hkl:(k:Int)<(l.length:Int):=by omega
  simp only[sv] at q0
  clear hc hx
  cases hw:lng x with
  |true=>
   rw[hw] at HW
   have HHIT:=Lib.hid (idxP_hit lng l k x HX.out (by simp[hw]) HA.out)
   clear hw
   go_wp2_with fail
   refine(HW.out _).mono ?_
   rintro e w1 ⟨rfl,e1⟩
   subst e1
   go_wp2_with fail
   go_ret
   exact⟨by rw[HHIT.out];rfl,rfl⟩
  |false=>
   rw[hw] at HW
   have HWD:=Lib.hid hw
   clear hw
   go_wp2_with fail
   refine(HW.out _).mono ?_
   rintro e w1 ⟨rfl,e1⟩
   subst e1
   go_wp2_with fail
   go_round
   case rel=>
    refine⟨k+1,Z11,Z81,fun j y hj hy=> ?_⟩
    by_cases hjk:j=k
    ·subst hjk
     rw[HX.out] at hy
     cases hy
     simp[HWD.out]
    ·exact HA.out j y Z11 hy
   case measure=>simp[intOf];omega
theorem contains_any (v:Value)(l:List (List UInt8))(w:World)(h:RdS w v l)(hN:l.length≤1048576):
 Calls Tryz.prog 113 #[v,.func (Fn.func 114) #[] #[]] w fun e w'=>e= .returned (.bool (l.any lng))∧w=w':=by
 have HI:=Lib.hid (index_any v l w h hN)
 have hd:decide (0≤idxP lng l)=l.any lng:=by
  unfold idxP
  by_cases ha:(l.any lng)=true
  ·rw[if_pos ha,ha];simp
  ·rw[if_neg ha];simp at ha⊢;exact ha
 have HD:=Lib.hid hd
 obtain⟨a,c,rfl⟩:=h.1.slice
 clear hd h
 generalize idxP lng l=r at*
 go_enter Tryz.func113,Tryz.ntmps113
 go_wp2_with fail
 refine HI.out.mono ?_
 rintro e w1 ⟨rfl,e1⟩
 subst e1
 go_wp2_with fail
 go_ret
 exact⟨by rw[←HD.out];rfl,rfl⟩
theorem equal_any (va vb:Value)(la lb:List (List UInt8))(w:World)(ha:RdS w va la)(hb:RdS w vb lb)(hla:la.length≤4611686018427387904):
 Calls Tryz.prog 109 #[va,vb] w fun e w'=>e= .returned (.bool (decide (la=lb)))∧Below w.heap.size w w':=by
 obtain⟨a1,c1,rfl⟩:=ha.1.slice
 obtain⟨a2,c2,rfl⟩:=hb.1.slice
 by_cases hlen:la.length=lb.length
 case neg=>
  have hr:decide (la=lb)=false:=by simp;exact fun e=>hlen (by rw[e])
  have h1:((la.length:Int) !=(lb.length:Int))=true:=by simp;omega
  rw[hr]
  clear hr hlen ha hb
  go_enter Tryz.func109,Tryz.ntmps109
  go_wp2_with fail
  go_ret
  exact⟨rfl,Below.refl _ _⟩
 case pos=>
 have h1:((la.length:Int) !=(lb.length:Int))=false:=by simp;omega
 have HL:=Lib.hid hlen
 have HA:=Lib.hid ha
 have HB:=Lib.hid hb
 clear hlen ha hb
 go_enter Tryz.func109,Tryz.ntmps109
 go_wp2_with fail
 go_loopw [13] (fun i wr=> ∃k:Nat,k≤la.length∧i= .int .i64 k∧(∀j,j<k→la[j]?=lb[j]?)∧Below w.heap.size w wr) (fun i _=>la.length-(intOf i).toNat)
 case atStart=>exact⟨0,Z11,rfl,fun j hj=>Z11,Below.refl _ _⟩
 case round=>
  obtain⟨k,hk,rfl,hall,hb⟩:=hrel
  have HALL:=Lib.hid hall
  clear hall
  by_cases hkn:k<la.length
  case neg=>
   have hk':k=la.length:=by omega
   subst hk'
   have hr:decide (la=lb)=true:=by
    simp
    apply List.ext_getElem?
    intro j
    by_cases hj:j<la.length
    ·exact HALL.out j hj
    ·rw[List.getElem?_eq_none Z11,List.getElem?_eq_none (by rw[←HL.out];omega)]
   have HR:=Lib.hid hr
   clear hr
   go_wp2_with fail
   go_ret
   exact⟨Z28,hb⟩
  case pos=>
  have hkn2:k<lb.length:=by rw[←HL.out];exact hkn
  obtain⟨b1,o1,cap1,e1,hcap1,hc1⟩:=(HA.out.1.below hb).pos Z11
  obtain⟨b2,o2,cap2,e2,hcap2,hc2⟩:=(HB.out.1.below hb).pos Z11
  cases e1
  cases e2
  obtain⟨x,hx⟩: ∃x,la[k]?=some x:=⟨_,List.getElem?_eq_getElem hkn⟩
  obtain⟨y,hy⟩: ∃y,lb[k]?=some y:=⟨_,List.getElem?_eq_getElem hkn2⟩
  have q1:wr.cell? ⟨b1,o1+k,none⟩=some (.string ⟨x.toArray⟩):=hc1 k (sv x) Z75
  have q2:wr.cell? ⟨b2,o2+k,none⟩=some (.string ⟨y.toArray⟩):=hc2 k (sv y) (by rw[List.getElem?_map,hy];rfl)
  have g1:(k:Int)<(la.length:Int):=by omega
  have g2:(k:Int)<(lb.length:Int):=by omega
  have HX:=Lib.hid hx
  have HY:=Lib.hid hy
  clear hc1 hc2 hx hy
  by_cases hxy:x=y
  ·subst hxy
   go_wp2_with fail
   go_quiet (fail)
   go_wp2_with fail
   go_roundw
   case rel=>
    refine⟨k+1,Z11,Z81,fun j hj=> ?_,?_⟩
    ·by_cases hjk:j=k
     ·subst hjk;rw[HX.out,HY.out]
     ·exact HALL.out j Z11
    ·exact below_drewN hb _
   case measure=>simp[intOf];omega
  ·have hr:decide (la=lb)=false:=by
    simp
    intro e
    subst e
    have:=HX.out.symm.trans HY.out
    cases this
    exact hxy rfl
   have HR:=Lib.hid hr
   have hne:(x==y)=false:=by simpa using hxy
   have hne2:=str_ne hne
   clear hr hxy
   go_wp2_with fail
   go_quiet (fail)
   go_wp2_with fail
   go_ret
   exact⟨Z28,below_drewN hb _⟩
theorem texts_any (v:Value)(l:List (List UInt8))(w:World)(h:RdS w v l)(hN:l.length≤1048576):
 Calls Tryz.prog 99 #[v] w fun e w'=>e= .returned (.bool (!(l.any lng)))∧w=w':=by
 have HC:=Lib.hid (contains_any v l w h hN)
 obtain⟨a,c,rfl⟩:=h.1.slice
 clear h
 generalize l.any lng=r at*
 go_enter Tryz.func99,Tryz.ntmps99
 go_wp2_with fail
 refine HC.out.mono ?_
 rintro e w1 ⟨rfl,e1⟩
 subst e1
 go_wp2_with fail
 go_ret
 exact⟨rfl,rfl⟩
def setC (l:List (List UInt8)):Bool:=decide (l.length≤32)&&(decide (Sc.set l=l)&&decide ((Sc.join (Sc.set l)).length≤128))
theorem setG_any (v:Value)(l:List (List UInt8))(w:World)(h:RdS w v l)(hN:l.length≤9223372036854775807):
 Calls Tryz.prog 97 #[v] w fun e w'=>e= .returned (.bool (setC l))∧Below w.heap.size w w':=by
 obtain⟨a,c,rfl⟩:=h.1.slice
 have H:=Lib.hid h
 clear h
 by_cases h32:l.length≤32
 case neg=>
  have t1: ¬(l.length:Int)≤32:=by omega
  have HR:Hid (setC l=false):=Lib.hid (by unfold setC;rw[decide_eq_false h32];rfl)
  go_enter Tryz.func97,Tryz.ntmps97
  exact Z203
 case pos=>
 have t1:(l.length:Int)≤32:=by omega
 have HS:=Lib.hid (set_any _ l w H.out Z11)
 have HL:=Lib.hid h32
 go_enter Tryz.func97,Tryz.ntmps97
 go_wp2_with fail
 refine HS.out.mono ?_
 rintro e w1 ⟨us,rfl,hos,hb1⟩
 obtain⟨ua,uc,hus⟩:=(Rd.of_own hos).slice
 subst hus
 have HB1:=Lib.hid hb1
 have HEQ:=Lib.hid (equal_any _ _ (Sc.set l) l w1 (hos.rd (fun y hy=>set_short hy)) (H.out.below hb1) (by have h1:=Sc.set_len l;omega))
 clear hos hb1
 go_wp2_with fail
 refine HEQ.out.mono ?_
 rintro e w2 ⟨rfl,hb2⟩
 have HB2:=Lib.hid (HB1.out.trans (hb2.mono HB1.out.size))
 by_cases he:Sc.set l=l
 case neg=>
  have t2:decide (Sc.set l=l)=false:=decide_eq_false he
  have HR:Hid (setC l=false):=Lib.hid (by unfold setC;rw[decide_eq_false he];simp)
  rw[t2]
  clear he hb2
  go_wp2_with fail
  go_ret
  exact⟨Z28,HB2.out⟩
 case pos=>
 have t2:decide (Sc.set l=l)=true:=decide_eq_true he
 have HP:=Lib.hid (sprint_any _ l w2 (H.out.below HB2.out) Z11)
 have HR:Hid (setC l=decide ((Sc.join (Sc.set l)).length≤128)):=Lib.hid (by unfold setC;rw[decide_eq_true h32,decide_eq_true he];rfl)
 have hsz:=st_size (Sc.join (Sc.set l))
 rw[t2]
 clear he hb2
 go_wp2_with fail
 refine HP.out.mono ?_
 rintro e w3 ⟨rfl,hb3⟩
 have HB3:=Lib.hid (HB2.out.trans (hb3.mono HB2.out.size))
 obtain⟨J,hJ⟩: ∃J,J=Sc.join (Sc.set l):=⟨_,rfl⟩
 rw[←hJ] at HR hsz⊢
 clear hJ hb3 HP
 go_wp2_with fail
 go_ret
 refine⟨?_,HB3.out⟩
 rw[HR.out]
 by_cases h:J.length≤128
 ·rw[decide_eq_true h,decide_eq_true Z11];rfl
 ·rw[decide_eq_false h,decide_eq_false Z11];rfl
end Go.Proofs.YtdmjegelcdghlaaGreat.Gr
namespace Go.Proofs.YtdmjegelcdghlaaGreat
theorem Z225 {p:Prop}(h:p:=by
 go_wp2_with fail
 go_round
 case rel=>exact⟨k+1,Z11,Z81,by rw[HJ.out]⟩
 case measure=>simp[intOf];omega):p:=h
theorem Z76 {p:Prop}(h:p:=by rw[List.getElem?_map,hx];rfl):p:=h
theorem Z29 {p:Prop}(h:p:=by rw[HR.out];rfl):p:=h
open Go.RowKit
theorem OwnS.none (W:World)(B:Nat):OwnS W B (.slice none 0 0) []:=World.ownsRow_nil _ _ _ _
open Go.RowKit
theorem same_any (va vb:Value)(la lb:List (List UInt8))(w:World)(ha:RdS w va la)(hb:RdS w vb lb)(hla:la.length≤4611686018427387904):
 Calls Tryz.prog 91 #[va,vb] w fun e w'=>e= .returned (.bool (decide (la=lb)))∧Below w.heap.size w w':=by
 obtain⟨a1,c1,rfl⟩:=ha.1.slice
 obtain⟨a2,c2,rfl⟩:=hb.1.slice
 by_cases hlen:la.length=lb.length
 case neg=>
  have hr:decide (la=lb)=false:=by simp;exact fun e=>hlen (by rw[e])
  have h1:((la.length:Int) !=(lb.length:Int))=true:=by simp;omega
  rw[hr]
  clear hr hlen ha hb
  go_enter Tryz.func91,Tryz.ntmps91
  go_wp2_with fail
  go_ret
  exact⟨rfl,Below.refl _ _⟩
 case pos=>
 have h1:((la.length:Int) !=(lb.length:Int))=false:=by simp;omega
 have HL:=Lib.hid hlen
 have HA:=Lib.hid ha
 have HB:=Lib.hid hb
 clear hlen ha hb
 go_enter Tryz.func91,Tryz.ntmps91
 go_wp2_with fail
 go_loopw [5] (fun i wr=> ∃k:Nat,k≤la.length∧i= .int .i64 k∧(∀j,j<k→la[j]?=lb[j]?)∧Below w.heap.size w wr) (fun i _=>la.length-(intOf i).toNat)
 case atStart=>exact⟨0,Z11,rfl,fun j hj=>Z11,Below.refl _ _⟩
 case round=>
  obtain⟨k,hk,rfl,hall,hb⟩:=hrel
  have HALL:=Lib.hid hall
  clear hall
  by_cases hkn:k<la.length
  case neg=>
   have hk':k=la.length:=by omega
   subst hk'
   have hr:decide (la=lb)=true:=by
    simp
    apply List.ext_getElem?
    intro j
    by_cases hj:j<la.length
    ·exact HALL.out j hj
    ·rw[List.getElem?_eq_none Z11,List.getElem?_eq_none (by rw[←HL.out];omega)]
   have HR:=Lib.hid hr
   clear hr
   go_wp2_with fail
   go_ret
   exact⟨Z29,hb⟩
  case pos=>
  have hkn2:k<lb.length:=by rw[←HL.out];exact hkn
  obtain⟨b1,o1,cap1,e1,hcap1,hc1⟩:=(HA.out.1.below hb).pos Z11
  obtain⟨b2,o2,cap2,e2,hcap2,hc2⟩:=(HB.out.1.below hb).pos Z11
  cases e1
  cases e2
  obtain⟨x,hx⟩: ∃x,la[k]?=some x:=⟨_,List.getElem?_eq_getElem hkn⟩
  obtain⟨y,hy⟩: ∃y,lb[k]?=some y:=⟨_,List.getElem?_eq_getElem hkn2⟩
  have q1:wr.cell? ⟨b1,o1+k,none⟩=some (.string ⟨x.toArray⟩):=hc1 k (sv x) Z76
  have q2:wr.cell? ⟨b2,o2+k,none⟩=some (.string ⟨y.toArray⟩):=hc2 k (sv y) (by rw[List.getElem?_map,hy];rfl)
  have g1:(k:Int)<(la.length:Int):=by omega
  have g2:(k:Int)<(lb.length:Int):=by omega
  have HX:=Lib.hid hx
  have HY:=Lib.hid hy
  clear hc1 hc2 hx hy
  by_cases hxy:x=y
  ·subst hxy
   go_wp2_with fail
   go_quiet (fail)
   go_wp2_with fail
   go_roundw
   case rel=>
    refine⟨k+1,Z11,Z81,fun j hj=> ?_,?_⟩
    ·by_cases hjk:j=k
     ·subst hjk;rw[HX.out,HY.out]
     ·exact HALL.out j Z11
    ·exact below_drewN hb _
   case measure=>simp[intOf];omega
  ·have hr:decide (la=lb)=false:=by
    simp
    intro e
    subst e
    have:=HX.out.symm.trans HY.out
    cases this
    exact hxy rfl
   have HR:=Lib.hid hr
   have hne:(x==y)=false:=by simpa using hxy
   have hne2:=str_ne hne
   clear hr hxy
   go_wp2_with fail
   go_quiet (fail)
   go_wp2_with fail
   go_ret
   exact⟨Z29,below_drewN hb _⟩
theorem has06_any (v:Value)(l:List (List UInt8))(s:List UInt8)(w:World)(h:RdS w v l)(hl:l.length≤4611686018427387904):
 Calls Tryz.prog 131 #[v,.string ⟨s.toArray⟩] w fun e w'=>e= .returned (.bool (decide (s∈l)))∧w=w':=by
 obtain⟨a,c,rfl⟩:=h.1.slice
 have HH:=Lib.hid h
 clear h
 go_enter Tryz.func131,Tryz.ntmps131
 go_wp2_with fail
 go_loop [5] (fun i=> ∃k:Nat,k≤l.length∧i= .int .i64 k∧ ∀j,j<k→l[j]?≠some s) (fun i=>l.length-(intOf i).toNat)
 case atStart=>exact⟨0,Z11,rfl,fun j hj=>Z11⟩
 case round=>
  obtain⟨k,hk,rfl,hall⟩:=hrel
  have HALL:=Lib.hid hall
  clear hall
  by_cases hkn:k<l.length
  case neg=>
   have hk':k=l.length:=by omega
   subst hk'
   have hr:decide (s∈l)=false:=by
    simp
    intro hm
    obtain⟨j,hj⟩:=List.getElem?_of_mem hm
    exact HALL.out j (List.getElem?_eq_some_iff.1 hj).1 hj
   have HR:=Lib.hid hr
   clear hr
   go_wp2_with fail
   go_ret
   exact⟨Z29,rfl⟩
  case pos=>
  obtain⟨b1,o1,cap1,e1,hcap1,hc1⟩:=HH.out.1.pos Z11
  cases e1
  obtain⟨x,hx⟩: ∃x,l[k]?=some x:=⟨_,List.getElem?_eq_getElem hkn⟩
  have q1:w.cell? ⟨b1,o1+k,none⟩=some (.string ⟨x.toArray⟩):=hc1 k (sv x) Z76
  have g1:(k:Int)<(l.length:Int):=by omega
  have HX:=Lib.hid hx
  clear hc1 hx
  by_cases hxy:x=s
  ·subst hxy
   have hr:decide (x∈l)=true:=by simp;exact List.mem_of_getElem? HX.out
   have HR:=Lib.hid hr
   clear hr
   go_wp2_with fail
   go_ret
   exact⟨Z29,rfl⟩
  ·have hne:(x==s)=false:=by simpa using hxy
   have hne2:=str_ne hne
   have HXY:=Lib.hid hxy
   clear hxy
   go_wp2_with fail
   go_round
   case rel=>
    refine⟨k+1,Z11,Z81,fun j hj=> ?_⟩
    by_cases hjk:j=k
    ·subst hjk;rw[HX.out];exact fun e=>HXY.out (Option.some.inj e)
    ·exact HALL.out j Z11
   case measure=>simp[intOf];omega
open Go.RowKit
theorem strs_elem:Tryz.prog.underlying 22=some (.slice (Tryz.prog.elem 22)):=by kernel_rfl
theorem strs_size (w:World):(sizeOf (Tryz.prog.elem 22)).run Tryz.prog w= .ok 1 w:=by kernel_rfl
theorem less_eq (x y:List UInt8):Op.bytesLess x y=decide (x<y):=Go.Proofs.bytesLess_eq x y
theorem less_str {x y:List UInt8}{b:Bool}(h:Op.bytesLess x y=b):Op.bytesLess (⟨x.toArray⟩:ByteArray).toList (⟨y.toArray⟩:ByteArray).toList=b:=by
 exact Z152
theorem own_cap {w:World}{B:Nat}{e:TypeId}{sz n c:Nat}{a:Option Addr}{xs:List Value}(h:w.ownsRow B e sz (.slice a n c) n xs):n≤c:=by
 rcases h.2 with⟨h0,h1⟩|⟨g,cap,cur,hv,_,_,hle,_⟩
 ·omega
 ·cases hv;exact hle
theorem cellAt_of {W:World}{b o n c:Nat}{l:List (List UInt8)}(h:Rd W 1 (.slice (some ⟨b,o,none⟩) n c) n (l.map sv))(k:Nat){x:List UInt8}(hx:l[k]?=some x):W.cell? ⟨b,o+k,none⟩=some (.string ⟨x.toArray⟩):=by
 rcases h.2 with⟨_,h0⟩|⟨b',o',c',e,_,hc⟩
 ·have:=(List.getElem?_eq_some_iff.1 hx).1
  have hl:=h.1
  rw[List.length_map] at hl;omega
 ·cases e
  exact hc k (sv x) Z76
theorem rset_any (v:Value)(l:List (List UInt8))(w:World)(h:RdS w v l)(hN:l.length≤1048576):
 Calls Tryz.prog 118 #[v] w fun e w'=> ∃v',e= .returned v'∧OwnS w' w.heap.size v' (Sc.set l)∧Below w.heap.size w w':=by
 obtain⟨a,c,rfl⟩:=h.1.slice
 obtain⟨i0,hi,hz0,hz1,hz2⟩:=info_parts str_row
 have HH:=Lib.hid h
 clear h
 go_enter Tryz.func118,Tryz.ntmps118
 go_wp2_with fail
 go_loopw [3,4] (fun o i wr=> ∃k:Nat,k≤l.length∧i= .int .i64 k∧OwnS wr w.heap.size o (Sc.set (l.take k))∧Below w.heap.size w wr) (fun _ i _=>l.length-(intOf i).toNat)
 case atStart=>exact⟨0,Z11,rfl,by rw[List.take_zero,Sc.set_nil];exact OwnS.none _ _,Below.refl _ _⟩
 case round=>
  obtain⟨k,hk,rfl,ho,hb⟩:=hrel
  obtain⟨ao,co,rfl⟩:=(Rd.of_own ho).slice
  by_cases hkn:k<l.length
  case neg=>
   have hk':k=l.length:=by omega
   subst hk'
   rw[List.take_of_length_le (Nat.le_refl _)] at*
   have HO:=Lib.hid ho
   clear ho
   go_wp2_with fail
   go_ret
   exact⟨_,rfl,HO.out,hb⟩
  case pos=>
  obtain⟨b1,o1,cap1,e1,hcap1,hc1⟩:=(HH.out.1.below hb).pos Z11
  cases e1
  obtain⟨x,hx⟩: ∃x,l[k]?=some x:=⟨_,List.getElem?_eq_getElem hkn⟩
  have q1:wr.cell? ⟨b1,o1+k,none⟩=some (.string ⟨x.toArray⟩):=hc1 k (sv x) Z76
  have HX:=Lib.hid hx
  have hco:=own_cap ho
  have g1:(k:Int)<(l.length:Int):=by omega
  have hxl:=HH.out.2 x (List.mem_of_getElem? hx)
  have hts:=take_snocL l k x hx
  have hsl:=Sc.set_len (l.take k)
  have htl:(l.take k).length≤k:=List.length_take_le _ _
  have hsn:Sc.set (l.take (k+1))=Sc.set (l.take k++ [x]):=by rw[hts]
  have HSN:=Lib.hid hsn
  have HNO:=Lib.hid (Sc.set_snoc_no (l.take k) x)
  have HYES:=Lib.hid (fun a=>Sc.set_snoc_yes (l.take k) x a)
  have HSS:=Lib.hid (fun y (hy:y∈Sc.set (l.take k))=>set_short hy)
  clear hc1 hx hts hsn
  have HW:=Lib.hid (fun w=>rword_any ⟨x.toArray⟩ w)
  have hex:(⟨x.toArray⟩:ByteArray).data.toList=x:=rfl
  rw[hex] at HW
  clear hex
  generalize Sc.set (l.take k)=S at*
  cases hw:Sc.word x with
  |false=>
   rw[hw] at HW
   have HN2:=Lib.hid (HNO.out (.inl hw))
   have HO:=Lib.hid ho
   clear hw ho
   go_wp2_with fail
   refine(HW.out _).mono ?_
   rintro e w2 ⟨rfl,e2⟩
   subst e2
   go_wp2_with fail
   go_roundw
   case rel=>exact⟨k+1,Z11,Z81,by rw[HSN.out,HN2.out];exact HO.out,hb⟩
   case measure=>simp[intOf];omega
  |true=>
   rw[hw] at HW
   have HWX:=Lib.hid hw
   have hrd:RdS wr _ S:=OwnS.rd ho HSS.out
   have HHAS:=Lib.hid (fun w h=>has06_any (.slice ao S.length co) S x w h Z11)
   clear hw
   by_cases hm:x∈S
   ·rw[decide_eq_true hm] at HHAS
    have HN2:=Lib.hid (HNO.out (.inr hm))
    have HO:=Lib.hid ho
    have HRD:=Lib.hid hrd
    clear ho hm hrd
    go_wp2_with fail
    refine(HW.out _).mono ?_
    rintro e w2 ⟨rfl,e2⟩
    subst e2
    go_wp2_with fail
    refine(HHAS.out _ HRD.out).mono ?_
    rintro e w2 ⟨rfl,e2⟩
    subst e2
    go_wp2_with fail
    go_roundw
    case rel=>exact⟨k+1,Z11,Z81,by rw[HSN.out,HN2.out];exact HO.out,hb⟩
    case measure=>simp[intOf];omega
   ·rw[decide_eq_false hm] at HHAS
    have HO:=Lib.hid ho
    have HRD:=Lib.hid hrd
    have HM:=Lib.hid hm
    clear ho hm hrd
    go_wp2_with fail
    refine(HW.out _).mono ?_
    rintro e w2 ⟨rfl,e2⟩
    subst e2
    go_wp2_with fail
    refine(HHAS.out _ HRD.out).mono ?_
    rintro e w2 ⟨rfl,e2⟩
    subst e2
    go_wp2_with fail
    clear q1
    obtain⟨wo,hwo⟩: ∃wo:World,wo=wr:=⟨_,rfl⟩
    subst hwo
    have h0:(0:Nat)≤S.length:=Nat.zero_le _
    go_loopw [5] (fun j wq=> ∃m:Nat,m≤S.length∧j= .int .i64 m∧(∀j y,j<m→S[j]?=some y→y<x)∧Below wo.heap.size wo wq) (fun j _=>S.length-(intOf j).toNat)
    case atStart=>exact⟨0,h0,rfl,fun j y hj=>Z11,Below.refl _ _⟩
    case round=>
     obtain⟨m,hmS,rfl,hall,hq⟩:=hrel
     have HALL:=Lib.hid hall
     clear hall
     have q1:=cellAt_of (HH.out.1.below (hb.trans (hq.mono hb.size))) k HX.out
     have hSN:S.length≤1048576:=by omega
     rcases Nat.lt_or_ge m S.length with hm1|hm1
     ·obtain⟨y,hy⟩: ∃y,S[m]?=some y:=⟨_,List.getElem?_eq_getElem hm1⟩
      obtain⟨b2,o2,cap2,e2,hcap2,hc2⟩:=(HRD.out.1.below hq).pos Z11
      have q2:wr.cell? ⟨b2,o2+m,none⟩=some (.string ⟨y.toArray⟩):=hc2 m (sv y) (by rw[List.getElem?_map,hy];rfl)
      cases e2
      have g2:(m:Int)<(S.length:Int):=by omega
      have HY:=Lib.hid hy
      clear hc2 hy
      by_cases hlt:y<x
      ·have hl1:Op.bytesLess y x=true:=by rw[less_eq];simpa using hlt
       have hl2:=less_str hl1
       have HLT:=Lib.hid hlt
       clear hlt
       go_wp2_with fail
       go_quiet (fail)
       go_wp2_with fail
       go_roundw
       case rel=>
        refine⟨m+1,Z11,Z81,fun j z hj hz=> ?_,below_drewN hq _⟩
        by_cases hjm:j=m
        ·subst hjm
         rw[HY.out] at hz
         cases hz
         exact HLT.out
        ·exact HALL.out j z Z11 hz
       case measure=>simp[intOf];omega
      ·have hl1:Op.bytesLess y x=false:=by rw[less_eq];simpa using hlt
       have hl2:=less_str hl1
       have HLT:=Lib.hid hlt
       clear hlt
       go_wp2_with fail
       go_quiet (fail)
       clear q1 q2 hl1 hl2
       have hz:=below_drewN hq nq
       generalize wr.drewN nq=wz at hz⊢
       have hsl1:=fun w=>sl_front (P:=Tryz.prog) w 22 (some ⟨b2,o2,none⟩) S.length co m .i64 strs_elem (strs_size w) Z11
       have hown0:=own_fresh wz 9 1
       have hza:Below wz.heap.size wz (wz.alloc (.cells #[] 9)):=(Below.refl _ _).alloc (Nat.le_refl _) _
       have rd1:=Lib.hid (((HRD.out.1.below hz).below hza).front m hmS)
       have hmm:m*1=m:=Nat.mul_one m
       go_wp2_with (at_builtin;go_loud (refine wpList_app rfl (.tmp 44) (.tmp 47) 22 rfl 9 wz.heap.size i0 (.string ⟨#[]⟩) 1 16 Tryz.underlying22 hi hz0 hz1 hz2 rfl Z37 _ _ _ rfl hown0 _ _ _ rfl rd1.out (fun u hu=>sv_one S u (List.mem_of_mem_take hu)) Z67 Z11 (by rw[World.size_alloc];omega) ?_))
       rintro v5 w5 hown5 hgrow5-
       have hB5:Below wz.heap.size wz w5:=below_app (Below.refl _ _) (Nat.le_refl _) hgrow5 (fun k e=>by cases e;exact Nat.le_refl _)
       have hz5:=hz.trans (hB5.mono hz.size)
       have hw5:=hb.trans (hz5.mono hb.size)
       have q5:=cellAt_of (HH.out.1.below hw5) k HX.out
       clear hown0 hgrow5 hza rd1 hsl1
       go_wp2_with (at_builtin;go_loud (refine wpList_append_own _ rfl (.tmp 49) (.tmp 54) 22 rfl wz.heap.size 9 i0 (.string ⟨#[]⟩) 1 16 Tryz.underlying22 hi hz0 hz1 hz2 rfl Z37 _ _ _ rfl (hown5.alloc _) ⟨w5.heap.size,0,none⟩ 1 1 [.string ⟨x.toArray⟩] rfl rfl (cell_one_new _ _ _) (by simp[Value.oneCell']) Z67 Z11 (by rw[World.size_alloc];have:=hB5.size;omega) ?_))
       rintro v6 w6 hown6 hgrow6-
       have hB6:Below wz.heap.size wz w6:=below_app hB5 hB5.size hgrow6 (fun k e=>(hown5.lt k e).1)
       have hz6:=hz.trans (hB6.mono hz.size)
       have hsl2:=fun w=>sl_back (P:=Tryz.prog) w 22 (some ⟨b2,o2,none⟩) S.length co m .i64 strs_elem (strs_size w) hmS
       have rd2:=Lib.hid ((HRD.out.1.below hz6).back m hmS)
       clear hown5 hgrow6 q5
       generalize (if co=m then(some ⟨b2,o2,none⟩:Option Addr) else(some ⟨b2,o2,none⟩:Option Addr).map (·.add (m*1)))=ab at*
       go_wp2_with (at_builtin;go_loud (refine wpList_app rfl (.tmp 56) (.tmp 59) 22 rfl 9 wz.heap.size i0 (.string ⟨#[]⟩) 1 16 Tryz.underlying22 hi hz0 hz1 hz2 rfl Z37 _ _ _ rfl hown6 _ _ _ rfl rd2.out (fun u hu=>sv_one S u (List.mem_of_mem_drop hu)) Z67 Z11 hB6.size ?_))
       rintro v7 w7 hown7 hgrow7-
       have hB7:Below wz.heap.size wz w7:=hB6.grown hgrow7 hB6.size (fun k e=>(hown6.lt k e).1)
       have hw7:=hb.trans ((hz.trans (hB7.mono hz.size)).mono hb.size)
       have hO7:OwnS w7 w.heap.size v7 (S.take m++x::S.drop m):=own_mono (own_cast hown7 (by simp;omega) (by simp[sv])) (Nat.le_trans hb.size hz.size)
       have hyes:=HYES.out m HWX.out HM.out hmS HALL.out (fun z hz'=>by rw[HY.out] at hz';cases hz';exact HLT.out)
       have HO7:=Lib.hid hO7
       have HY7:=Lib.hid hyes
       clear hO7 hyes hown7 hown6 hgrow7 hsl2 rd2
       go_wp2_with fail
       go_roundw
       case rel=>exact⟨k+1,Z11,Z81,by rw[HSN.out,HY7.out];exact HO7.out,hw7⟩
       case measure=>simp[intOf];omega
     ·have hm2:decide (m<S.length)=false:=by simp;omega
      have hm3:decide ((m:Int)<(S.length:Int))=false:=by simp;omega
      have HM2:Hid (m=S.length):=Lib.hid Z11
      go_wp2_with fail
      go_quiet (fail)
      clear q1
      have hz:=below_drewN hq nq
      generalize wr.drewN nq=wz at hz⊢
      have hsl1:=fun w=>sl_front (P:=Tryz.prog) w 22 ao S.length co m .i64 strs_elem (strs_size w) Z11
      have hown0:=own_fresh wz 9 1
      have hza:Below wz.heap.size wz (wz.alloc (.cells #[] 9)):=(Below.refl _ _).alloc (Nat.le_refl _) _
      have rd1:=Lib.hid (((HRD.out.1.below hz).below hza).front m hmS)
      have hmm:m*1=m:=Nat.mul_one m
      go_wp2_with (at_builtin;go_loud (refine wpList_app rfl (.tmp 44) (.tmp 47) 22 rfl 9 wz.heap.size i0 (.string ⟨#[]⟩) 1 16 Tryz.underlying22 hi hz0 hz1 hz2 rfl Z37 _ _ _ rfl hown0 _ _ _ rfl rd1.out (fun u hu=>sv_one S u (List.mem_of_mem_take hu)) Z67 Z11 (by rw[World.size_alloc];omega) ?_))
      rintro v5 w5 hown5 hgrow5-
      have hB5:Below wz.heap.size wz w5:=below_app (Below.refl _ _) (Nat.le_refl _) hgrow5 (fun k e=>by cases e;exact Nat.le_refl _)
      have hz5:=hz.trans (hB5.mono hz.size)
      have hw5:=hb.trans (hz5.mono hb.size)
      have q5:=cellAt_of (HH.out.1.below hw5) k HX.out
      clear hown0 hgrow5 hza rd1 hsl1
      go_wp2_with (at_builtin;go_loud (refine wpList_append_own _ rfl (.tmp 49) (.tmp 54) 22 rfl wz.heap.size 9 i0 (.string ⟨#[]⟩) 1 16 Tryz.underlying22 hi hz0 hz1 hz2 rfl Z37 _ _ _ rfl (hown5.alloc _) ⟨w5.heap.size,0,none⟩ 1 1 [.string ⟨x.toArray⟩] rfl rfl (cell_one_new _ _ _) (by simp[Value.oneCell']) Z67 Z11 (by rw[World.size_alloc];have:=hB5.size;omega) ?_))
      rintro v6 w6 hown6 hgrow6-
      have hB6:Below wz.heap.size wz w6:=below_app hB5 hB5.size hgrow6 (fun k e=>(hown5.lt k e).1)
      have hz6:=hz.trans (hB6.mono hz.size)
      have hmS2:=HM2.out
      clear HM2
      subst hmS2
      clear hown5 hgrow6 q5
      go_wp2_with (at_builtin;go_loud (refine wpList_app rfl (.tmp 56) (.tmp 59) 22 rfl 9 wz.heap.size i0 (.string ⟨#[]⟩) 1 16 Tryz.underlying22 hi hz0 hz1 hz2 rfl Z37 _ _ _ rfl hown6 (.slice (if co=S.length then ao else Option.map (fun x=>x.add S.length) ao) 0 (co-S.length)) 0 [] rfl ⟨rfl,.inl ⟨⟨_,_,rfl⟩,rfl⟩⟩ Z93 Z67 Z11 hB6.size ?_))
      all_goals
       rintro v7 w7 hown7 hgrow7-
       have hB7:Below wz.heap.size wz w7:=hB6.grown hgrow7 hB6.size (fun k e=>(hown6.lt k e).1)
       have hw7:=hb.trans ((hz.trans (hB7.mono hz.size)).mono hb.size)
       have hO7:OwnS w7 w.heap.size v7 (S.take S.length++x::S.drop S.length):=own_mono (own_cast hown7 Z93 (by simp[sv,List.take_of_length_le,List.drop_of_length_le])) (Nat.le_trans hb.size hz.size)
       have hyes:=HYES.out S.length HWX.out HM.out (Nat.le_refl _) HALL.out (fun z hz'=>by rw[List.getElem?_eq_none hm1] at hz';cases hz')
       have HO7:=Lib.hid hO7
       have HY7:=Lib.hid hyes
       clear hO7 hyes hown7 hown6 hgrow7
       go_wp2_with fail
       go_roundw
       case rel=>exact⟨k+1,Z11,Z81,by rw[HSN.out,HY7.out];exact HO7.out,hw7⟩
       case measure=>simp[intOf];omega
open Go.RowKit
theorem rprint_any (v:Value)(l:List (List UInt8))(w:World)(h:RdS w v l)(hN:l.length≤1048576):
 Calls Tryz.prog 119 #[v] w fun e w'=>e= .returned (.string ⟨(Sc.join (Sc.set l)).toArray⟩)∧Below w.heap.size w w':=by
 have hsl:=Sc.set_len l
 have hSE:=Lib.hid (rset_any v l w h hN)
 have hsw: ∀x∈Sc.set l,x.length≤64:=fun x hx=>(Sc.word_len x (Sc.set_word hx)).2
 have HSW:=Lib.hid hsw
 have HSH:=Lib.hid (fun x (hx:x∈Sc.set l)=>set_short hx)
 clear h hsw
 generalize Sc.set l=S at*
 go_enter Tryz.func119,Tryz.ntmps119
 go_wp2_with fail
 refine hSE.out.mono ?_
 rintro e w1 ⟨v1,rfl,ho,hb1⟩
 have HR:=Lib.hid (ho.rd HSH.out)
 obtain⟨a,c,rfl⟩:=(Rd.of_own ho).slice
 clear ho hSE
 go_wp2_with fail
 go_loop [3,5] (fun s i=> ∃k:Nat,k≤S.length∧i= .int .i64 k∧s= .string ⟨(Sc.join (S.take k)).toArray⟩) (fun _ i=>S.length-(intOf i).toNat)
 case atStart=>exact⟨0,Z11,rfl,by simp[Sc.join]⟩
 case round=>
  obtain⟨k,hk,rfl,rfl⟩:=hrel
  by_cases hkn:k<S.length
  case neg=>
   have hk':k=S.length:=by omega
   subst hk'
   rw[List.take_of_length_le (Nat.le_refl _)]
   go_wp2_with fail
   go_ret
   exact⟨rfl,hb1⟩
  case pos=>
  obtain⟨b1,o1,cap1,e1,hcap1,-⟩:=HR.out.1.pos Z11
  cases e1
  obtain⟨x,hx⟩: ∃x,S[k]?=some x:=⟨_,List.getElem?_eq_getElem hkn⟩
  have q1:=cellAt_of HR.out.1 k hx
  have hxl:=HSW.out x (List.mem_of_getElem? hx)
  have hts:=take_snocL S k x hx
  have hjl:=Sc.join_len (S.take k) 64 (fun y hy=>HSW.out y (List.mem_of_mem_take hy))
  have htl:(S.take k).length≤k:=List.length_take_le _ _
  have hjs:=Sc.join_snoc (S.take k) x
  rw[←hts] at hjs
  have hg1:(k:Int)<(S.length:Int):=by omega
  have hjb:(Sc.join (S.take k)).length≤68157440:=by omega
  clear hts hx hjl
  by_cases hk0:k=0
  ·have hz:S.take k= []:=by rw[hk0];simp
   rw[if_pos hz] at hjs
   have HJ:=Lib.hid hjs
   have y1:=st_add [] x x (by simp;omega) Z93
   have hz2:Sc.join (S.take k)= []:=by rw[hz];rfl
   rw[hz2]
   have hk1:decide (0<k)=false:=by simp;omega
   have hk2:decide ((0:Int)<(k:Int))=false:=by simp;omega
   clear hjs hz hz2 hjb htl hk0
   exact Z225
  ·have hne:S.take k≠ []:=by
    intro e
    have:=congrArg List.length e
    rw[List.length_take,List.length_nil] at this
    omega
   rw[if_neg hne] at hjs
   generalize Sc.join (S.take k)=j at*
   have HJ:=Lib.hid hjs
   have y1:=st_add j [32] (j++ [32]) (by simp;omega) rfl
   have y2:=st_add (j++ [32]) x (j++32::x) (by simp;omega) Z93
   generalize j++ [32]=j1 at*
   generalize j++32::x=j2 at*
   have hk1:0<k:=by omega
   have hk2:(0:Int)<(k:Int):=by omega
   clear hjs hne hk0
   exact Z225
end Go.Proofs.YtdmjegelcdghlaaGreat
