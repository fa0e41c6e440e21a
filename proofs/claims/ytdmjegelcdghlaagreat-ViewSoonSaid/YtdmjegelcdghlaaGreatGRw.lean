/-
  Chapter 1: octet.worth, octet.unsixes, octet.Unweb at the web's signs. Printed by gen_web64.py.
-/
import Derived.LoopN
import Derived.Test.YtdmjegelcdghlaaGreatGApp
set_option maxRecDepth 100000
set_option maxHeartbeats 64000000
set_option linter.unusedVariables false
set_option linter.unusedSimpArgs false
namespace Go.Proofs.YtdmjegelcdghlaaGreat
theorem Z210 {p:Prop}(h:p:=by
 have:=key ⟨v/64,Z11⟩ ⟨v % 64,Z11⟩
 simp only[Nat.div_add_mod] at this
 exact this):p:=h
theorem Z144 {p:Prop}(h:p:=by rw[List.length_append,List.length_singleton]):p:=h
theorem Z134 {p:Prop}(h:p:=by
 go_wp2_with fail
 go_ret2
 refine⟨_,by rw[hu.out];rfl,?_,hb⟩
 rw[hu.out]
 exact World.ownsRow_nil _ _ _ _):p:=h
theorem Z82 {p:Prop}(h:p:=by go_num):p:=h
theorem Z66 {p:Prop}(h:p:=by simp only[Option.some.injEq,Prod.mk.injEq] at hu;obtain⟨rfl,_⟩:=hu;rw[List.length_append,List.length_singleton];omega):p:=h
theorem Z38 {p:Prop}(h:p:=by decide):p:=h
theorem Z31 {p:Prop}(h:p:=by rfl):p:=h
end Go.Proofs.YtdmjegelcdghlaaGreat
namespace Go.Proofs.YtdmjegelcdghlaaGreat.Ow
open Go.RowKit
abbrev By:=List UInt8
def basT:By:= [65,66,67,68,69,70,71,72,73,74,75,76,77,78,79,80,81,82,83,84,85,86,87,88,89,90,97,98,99,100,101,102,103,104,105,106,107,108,109,110,111,112,113,114,115,116,117,118,119,120,121,122,48,49,50,51,52,53,54,55,56,57,45,95]
def sg (n:Nat):UInt8:=basT.getD n 0
theorem u8_row:(Tryz.prog.info? 5).map (fun i=>(i.zero,i.size,i.bytes))=some (some (.int .u8 0),1,1):=by kernel_rfl
theorem ixw (u:Nat)(h:u<64)(w:World):(Instr.index 9 (.string ⟨basT.toArray⟩) (.int .i64 (u:Int))).run Tryz.prog w= .ok (.int .u8 ((sg u).toNat:Int)) w:=by
 have key: ∀n:Fin 64,(⟨basT.toArray⟩:ByteArray).data[n.val]?=some (sg n.val):=by decide+kernel
 have h2:=key ⟨u,h⟩
 have hz:(⟨basT.toArray⟩:ByteArray).size=64:=by decide
 obtain⟨h4,h5⟩:=Array.getElem?_eq_some_iff.1 h2
 exact ix_str ⟨basT.toArray⟩ u (by rw[hz];exact h) (sg u) h5 w
theorem rd_oneb (W:World)(c:UInt8):Rd (W.alloc (.cells #[.int .u8 (c.toNat:Int)] 5)) 1 (.slice (some ⟨W.heap.size,0,none⟩) 1 1) 1 (Lib.byteCells [c]):=
 ⟨rfl,.inr ⟨W.heap.size,0,1,rfl,Nat.le_refl _,fun j u hj=>by have:=cells_new W [.int .u8 (c.toNat:Int)] 5 j u hj;rw[Addr.add_lit] at this;exact this⟩⟩
theorem info_p {P:Program}{t:TypeId}{z:Value}{s b:Nat}(h:(P.info? t).map (fun i=>(i.zero,i.size,i.bytes))=some (some z,s,b)): ∃i,P.info? t=some i∧i.zero=some z∧i.size=s∧i.bytes=b:=by
 cases hi:P.info? t with
 |none=>rw[hi] at h;cases h
 |some i=>rw[hi] at h;simp at h;exact⟨i,rfl,h.1,h.2.1,h.2.2⟩
def wbN (c:UInt8):Nat:=basT.idxOf c
def wbI (c:UInt8):Int:=if wbN c<64 then(wbN c:Int) else-1
def un (s:By):Nat→Option (By×Nat)
 |0=>some ([],0)
 |k+1=>match un s k with
  |none=>none
  |some (o,h)=>if wbN (s.getD k 0)<64 then
   (if k % 4=0 then some (o,h*64+wbN (s.getD k 0))
   else if k % 4=1 then some (o++ [UInt8.ofNat ((h*64+wbN (s.getD k 0))/16)],(h*64+wbN (s.getD k 0))% 16)
   else if k % 4=2 then some (o++ [UInt8.ofNat ((h*64+wbN (s.getD k 0))/4)],(h*64+wbN (s.getD k 0))% 4)
   else some (o++ [UInt8.ofNat (h*64+wbN (s.getD k 0))],0))
   else none
def unsix (s:By):Option By:=if s.length % 4=1 then none else match un s s.length with
 |some (o,h)=>if h=0 then some o else none
 |none=>none
theorem un_held (s:By)(k:Nat)(o:By)(h:Nat)(hu:un s k=some (o,h)):(k % 4=0→h=0)∧(k % 4=1→h<64)∧(k % 4=2→h<16)∧(k % 4=3→h<4):=by
 cases k with
 |zero=>simp only[un,Option.some.injEq,Prod.mk.injEq] at hu;obtain⟨_,rfl⟩:=hu;exact⟨fun _=>rfl,fun h=>Z11,fun h=>Z11,fun h=>Z11⟩
 |succ k=>
  rw[un] at hu
  cases hp:un s k with
  |none=>rw[hp] at hu;cases hu
  |some p=>
   obtain⟨o',h'⟩:=p
   rw[hp] at hu
   simp only at hu
   by_cases hw:wbN (s.getD k 0)<64
   ·rw[if_pos hw] at hu
    by_cases h0:k % 4=0
    ·rw[if_pos h0] at hu
     simp only[Option.some.injEq,Prod.mk.injEq] at hu
     obtain⟨_,rfl⟩:=hu
     have hh:h'=0:=(un_held s k o' h' hp).1 h0
     subst hh
     exact⟨fun h=>Z11,fun _=>Z11,fun h=>Z11,fun h=>Z11⟩
    ·rw[if_neg h0] at hu
     by_cases h1:k % 4=1
     ·rw[if_pos h1] at hu
      simp only[Option.some.injEq,Prod.mk.injEq] at hu
      obtain⟨_,rfl⟩:=hu
      exact⟨fun h=>Z11,fun h=>Z11,fun _=>Nat.mod_lt _ Z38,fun h=>Z11⟩
     ·rw[if_neg h1] at hu
      by_cases h2:k % 4=2
      ·rw[if_pos h2] at hu
       simp only[Option.some.injEq,Prod.mk.injEq] at hu
       obtain⟨_,rfl⟩:=hu
       exact⟨fun h=>Z11,fun h=>Z11,fun h=>Z11,fun _=>Nat.mod_lt _ Z38⟩
      ·rw[if_neg h2] at hu
       simp only[Option.some.injEq,Prod.mk.injEq] at hu
       obtain⟨_,rfl⟩:=hu
       exact⟨fun _=>rfl,fun h=>Z11,fun h=>Z11,fun h=>Z11⟩
   ·rw[if_neg hw] at hu;cases hu
theorem un_len (s:By)(k:Nat)(o:By)(h:Nat)(hu:un s k=some (o,h)):o.length≤k:=by
 induction k generalizing o h with
 |zero=>simp only[un,Option.some.injEq,Prod.mk.injEq] at hu;obtain⟨rfl,_⟩:=hu;exact Nat.le_refl _
 |succ k ih=>
  rw[un] at hu
  cases hp:un s k with
  |none=>rw[hp] at hu;cases hu
  |some p=>
   obtain⟨o',h'⟩:=p
   rw[hp] at hu
   have h1:=ih o' h' hp
   simp only at hu
   split at hu
   ·split at hu
    ·simp only[Option.some.injEq,Prod.mk.injEq] at hu;obtain⟨rfl,_⟩:=hu;omega
    ·split at hu
     ·exact Z66
     ·split at hu
      ·exact Z66
      ·exact Z66
   ·cases hu
theorem un_none (s:By)(k n:Nat)(h:un s k=none)(hk:k≤n):un s n=none:=by
 induction n with
 |zero=>rw[show k=0 from Z11] at h;exact h
 |succ n ih=>
  by_cases hkn:k=n+1
  ·rw[←hkn];exact h
  ·rw[un,ih Z11]
theorem or_64 (y x:Nat)(hy:y<64)(hx:x<64):bits .or .i64 ((y:Int)*64) (x:Int)=((y*64+x:Nat):Int):=by
 have key: ∀y:Fin 64,∀a:Fin 64,bits .or .i64 ((y.val:Int)*64) (a.val:Int)=((y.val*64+a.val:Nat):Int):=by decide+kernel
 exact key ⟨y,hy⟩ ⟨x,hx⟩
theorem and_15b (v:Nat)(h:v<4096):bits .and .i64 (v:Int) 15=((v % 16:Nat):Int):=by
 have key: ∀a:Fin 64,∀b:Fin 64,bits .and .i64 ((64*a.val+b.val:Nat):Int) 15=(((64*a.val+b.val)% 16:Nat):Int):=by decide+kernel
 exact Z210
theorem and_3b (v:Nat)(h:v<4096):bits .and .i64 (v:Int) 3=((v % 4:Nat):Int):=by
 have key: ∀a:Fin 64,∀b:Fin 64,bits .and .i64 ((64*a.val+b.val:Nat):Int) 3=(((64*a.val+b.val)% 4:Nat):Int):=by decide+kernel
 exact Z210
theorem and_0b (v:Nat)(h:v<4096):bits .and .i64 (v:Int) 0=0:=by
 have key: ∀a:Fin 64,∀b:Fin 64,bits .and .i64 ((64*a.val+b.val:Nat):Int) 0=0:=by decide+kernel
 exact Z210
theorem worth_step (c:UInt8)(k:Nat)(hk:k<64)(h:k≤wbN c):(sg k=c→wbN c=k)∧(sg k≠c→k+1≤wbN c):=by
 have key: ∀k:Fin 64,wbN (sg k.val)=k.val:=by decide+kernel
 refine⟨fun e=>by rw[←e];exact key ⟨k,hk⟩,fun hne=> ?_⟩
 rcases Nat.lt_or_ge k (wbN c) with h'|h'
 ·exact h'
 ·exfalso
  have hkc:wbN c=k:=by omega
  apply hne
  have hl:basT.idxOf c<basT.length:=by show wbN c<64;omega
  have:=List.getElem_idxOf hl
  unfold sg
  rw[List.getD_eq_getElem?_getD,List.getElem?_eq_getElem (by show k<64;exact hk),Option.getD_some]
  rw[←this]
  congr 1
  exact hkc.symm
theorem worthW_any (c:UInt8)(w:World):
 Calls Tryz.prog 191 #[.string ⟨basT.toArray⟩,.int .u8 (c.toNat:Int)] w fun e w'=>e= .returned (.int .i64 (wbI c))∧w=w':=by
 obtain⟨tb,htb⟩: ∃tb,tb=(⟨basT.toArray⟩:ByteArray):=⟨_,rfl⟩
 have hsz:tb.size=64:=by rw[htb];decide
 rw[←htb]
 have HIX:Hid (∀k:Nat,k<64→(Instr.index 9 (.string tb) (.int .i64 (k:Int))).run Tryz.prog w= .ok (.int .u8 ((sg k).toNat:Int)) w):=Lib.hid (fun k hk=>by rw[htb];exact ixw k hk w)
 clear htb
 go_enter Tryz.func191,Tryz.ntmps191
 go_wp2_with fail
 go_loop [5] (fun i=> ∃k:Nat,k≤64∧i= .int .i64 (k:Int)∧k≤wbN c) (fun i=>64-(intOf i).toNat)
 case atStart=>exact⟨0,Z38,rfl,Nat.zero_le _⟩
 case round=>
  obtain⟨k,hk,rfl,hkc⟩:=hrel
  by_cases hlt:k<64
  case neg=>
   have t0: ¬(k:Int)<64:=by omega
   have hw:=Lib.hid (show wbI c= -1 from by unfold wbI;rw[if_neg Z11])
   go_wp2_with fail
   go_ret
   exact⟨by rw[hw.out];rfl,rfl⟩
  case pos=>
   have t0:(k:Int)<64:=by omega
   have hix:=HIX.out k hlt
   have hst:=worth_step c k hlt hkc
   by_cases he:sg k=c
   case pos=>
    have t1:(((sg k).toNat:Int)==(c.toNat:Int))=true:=by rw[he];simp
    have hw:=Lib.hid (show wbI c=(k:Int) from by unfold wbI;rw[hst.1 he,if_pos hlt])
    clear hst he
    generalize sg k=x at*
    go_wp2_with fail
    go_ret
    exact⟨by rw[hw.out];rfl,rfl⟩
   case neg=>
    have t1:(((sg k).toNat:Int)==(c.toNat:Int))=false:=by
     rw[beq_eq_false_iff_ne];intro e;exact he (UInt8.toNat_inj.1 Z11)
    have hkc2:=Lib.hid (hst.2 he)
    clear hst he
    generalize sg k=x at*
    go_wp2_with fail
    go_round
    case rel=>exact⟨k+1,Z11,Z82,hkc2.out⟩
    case measure=>simp[intOf];omega
def unC (x:Option By):Int:=if x.isSome=true then 0 else 3
theorem unsixes_any (s:By)(w:World)(hl:s.length≤140737488355000):
 Calls Tryz.prog 166 #[.string ⟨basT.toArray⟩,.string ⟨s.toArray⟩] w fun e w'=> ∃v,e= .returned (.tuple #[v,.int .i64 (unC (unsix s))])∧w'.ownsRow w.heap.size 5 1 v ((unsix s).getD []).length (Lib.byteCells ((unsix s).getD []))∧Below w.heap.size w w':=by
 have hsz:(⟨s.toArray⟩:ByteArray).size=s.length:=by simp[ByteArray.size]
 obtain⟨i0,hi,hz0,hz1,hz2⟩:=info_p u8_row
 obtain⟨SZ,hSZ⟩: ∃SZ,SZ=s.length:=⟨_,rfl⟩
 have HSZ:=Lib.hid hSZ
 obtain⟨sb,hsb⟩: ∃sb,sb=(⟨s.toArray⟩:ByteArray):=⟨_,rfl⟩
 rw[←hsb,←hSZ] at hsz
 rw[←hSZ] at hl
 have HIX:Hid (∀(k:Nat) c W,s[k]?=some c→(Instr.index 9 (.string sb) (.int .i64 (k:Int))).run Tryz.prog W= .ok (.int .u8 (c.toNat:Int)) W):=Lib.hid (fun k c W hk=>by
  have h2:s.toArray[k]?=some c:=by simpa using hk
  obtain⟨h4,h5⟩:=Array.getElem?_eq_some_iff.1 h2
  rw[hsb]
  exact ix_str ⟨s.toArray⟩ k h4 c h5 W)
 obtain⟨tb,htb⟩: ∃tb,tb=(⟨basT.toArray⟩:ByteArray):=⟨_,rfl⟩
 have HW:Hid (∀(c:UInt8) W,Calls Tryz.prog 191 #[.string tb,.int .u8 (c.toNat:Int)] W fun e w'=>e= .returned (.int .i64 (wbI c))∧W=w'):=Lib.hid (fun c W=>by rw[htb];exact worthW_any c W)
 rw[←hsb,←htb]
 clear hsb htb hSZ
 by_cases hm:SZ % 4=1
 case pos=>
  have t0:((SZ:Int)% 4==1)=true:=by rw[beq_iff_eq];omega
  have hu:=Lib.hid (show unsix s=none from by unfold unsix;rw[if_pos (by rw[←HSZ.out];exact hm)])
  clear hm
  go_enter Tryz.func166,Tryz.ntmps166
  go_wp2_with fail
  go_ret2
  refine⟨_,by rw[hu.out];rfl,?_,Below.refl _ _⟩
  rw[hu.out]
  exact World.ownsRow_nil _ _ _ _
 case neg=>
 have t0:((SZ:Int)% 4==1)=false:=by rw[beq_eq_false_iff_ne];omega
 have HM:=Lib.hid hm
 clear hm
 go_enter Tryz.func166,Tryz.ntmps166
 go_wp2_with fail
 go_loopw [6,7,8,9] (fun b h bt i wr=> ∃(k:Nat) (q:By) (y:Nat) (sr:Value),k≤SZ∧i= .int .i64 (k:Int)∧un s k=some (q,y)∧b=sr∧h= .int .i64 (y:Int)∧bt= .int .i64 (((6*k)% 8:Nat):Int)∧wr.ownsRow w.heap.size 5 1 sr q.length (Lib.byteCells q)∧Below w.heap.size w wr) (fun _ _ _ i _=>SZ-(intOf i).toNat)
 case atStart=>exact⟨0,[],0,_,Nat.zero_le _,rfl,rfl,rfl,rfl,rfl,World.ownsRow_nil _ _ _ _,Below.refl _ _⟩
 case round=>
  obtain⟨k,q,y,sr,hk,rfl,hun,hsr,rfl,rfl,ho,hb⟩:=hrel
  obtain rfl:=hsr.symm
  obtain⟨sa,sc,hsl⟩:=(Rd.of_own ho).slice
  subst hsl
  have hh:=un_held s k q y hun
  have HQL:Hid (q.length≤140737488355000):=Lib.hid (by have:=un_len s k q y hun;omega)
  have HO:=Lib.hid ho
  by_cases hlt:k<SZ
  case neg=>
   have k0: ¬(k:Int)<(SZ:Int):=by omega
   have hke:k=s.length:=by rw[←HSZ.out];omega
   by_cases hy:y=0
   case pos=>
    subst hy
    have hu:=Lib.hid (show unsix s=some q from by unfold unsix;rw[if_neg (by rw[←HSZ.out];exact HM.out),←hke,hun];simp)
    clear hun hh ho hke
    go_wp2_with fail
    go_ret2
    refine⟨_,by rw[hu.out];rfl,?_,hb⟩
    rw[hu.out]
    exact HO.out
   case neg=>
    have t1:((y:Int)==0)=false:=by rw[beq_eq_false_iff_ne];omega
    have t2:((y:Int) !=0)=true:=by rw[bne,t1];rfl
    have hu:=Lib.hid (show unsix s=none from by unfold unsix;rw[if_neg (by rw[←HSZ.out];exact HM.out),←hke,hun];(try simp only);rw[if_neg hy])
    clear hun hh ho hke hy
    exact Z134
  case pos=>
   have k0:(k:Int)<(SZ:Int):=by omega
   obtain⟨c,hc⟩: ∃c,s[k]?=some c:=⟨_,List.getElem?_eq_getElem (by have:=HSZ.out;omega)⟩
   have hix:=HIX.out k c wr hc
   have hgd:s.getD k 0=c:=by rw[List.getD_eq_getElem?_getD,hc];rfl
   have hS:un s (k+1)=_:=un.eq_2 s k
   rw[hun,hgd] at hS
   clear hun hc hgd ho
   go_wp2_with fail
   refine(HW.out c wr).mono ?_
   rintro e w' ⟨rfl,hw⟩
   obtain rfl:=hw
   by_cases hx:wbN c<64
   case neg=>
    have hwi:wbI c= -1:=by unfold wbI;rw[if_neg hx]
    rw[hwi]
    have hu:=Lib.hid (show unsix s=none from by
     unfold unsix
     rw[if_neg (by rw[←HSZ.out];exact HM.out),un_none s (k+1) s.length (by rw[hS];(try simp only);rw[if_neg hx]) (by rw[←HSZ.out];omega)])
    clear hS hh hwi hx
    exact Z134
   case pos=>
    have hwi:wbI c=(wbN c:Int):=by unfold wbI;rw[if_pos hx]
    rw[hwi]
    generalize wbN c=x at*
    have hxl:x<64:=hx
    have t3: ¬(x:Int)<0:=by omega
    have t4:decide ((x:Int)<0)=false:=decide_eq_false t3
    clear hwi hx hix
    have h4c:k % 4=0∨k % 4=1∨k % 4=2∨k % 4=3:=by omega
    rcases h4c with h4c|h4c|h4c|h4c
    case inl=>
     have hyl:y<1:=by have:=hh.1 h4c;omega
     have hyl2:y<64:=by omega
     have hb0:(6*(k:Int))% 8=0:=by omega
     rw[hb0]
     obtain⟨v,hv⟩: ∃v,v=y*64+x:=⟨_,rfl⟩
     have hvl:v<4096:=by omega
     have e0:bits .or .i64 ((y:Int)*64) (x:Int)=(v:Int):=by rw[hv];exact or_64 y x Z11 hxl
     have hS2:=Lib.hid (show un s (k+1)=some (q,v) from by rw[hS];(try simp only);rw[if_pos hxl,if_pos h4c,←hv])
     clear hS hh hb0 hv
     go_wp2_with fail
     go_roundw
     case rel=>exact⟨k+1,q,v,_,Z11,Z82,hS2.out,rfl,rfl,by rw[show((6*(k+1))% 8:Nat)=6 from Z11];rfl,HO.out,hb⟩
     case measure=>simp[intOf];omega
    case inr.inl=>
     have hyl:y<64:=by have:=hh.2.1 h4c;omega
     have hyl2:y<64:=by omega
     have hb0:(6*(k:Int))% 8=6:=by omega
     rw[hb0]
     obtain⟨v,hv⟩: ∃v,v=y*64+x:=⟨_,rfl⟩
     have hvl:v<4096:=by omega
     have e0:bits .or .i64 ((y:Int)*64) (x:Int)=(v:Int):=by rw[hv];exact or_64 y x Z11 hxl
     obtain⟨cz,hcz⟩: ∃cz:UInt8,cz=UInt8.ofNat (v/16):=⟨_,rfl⟩
     have e1:(v:Int)/16=((v/16:Nat):Int):=(Int.natCast_ediv v 16).symm
     obtain⟨u,hu⟩: ∃u,u=v/16:=⟨_,rfl⟩
     obtain⟨r,hr⟩: ∃r,r=v % 16:=⟨_,rfl⟩
     have e3:bits .and .i64 (v:Int) 15=(r:Int):=by rw[hr];exact and_15b v hvl
     rw[←hu] at e1 hcz
     have hul:u<256:=by omega
     have e4:IntKind.u8.wrap (u:Int)=(cz.toNat:Int):=by rw[hcz,IntKind.wrap_u8,UInt8.toNat_ofNat_of_lt' (by show u<256;exact hul)];omega
     have e5:(u:Int)% 256=(cz.toNat:Int):=by rw[←e4,IntKind.wrap_u8]
     have hyl2:y<64:=by omega
     have hS2:=Lib.hid (show un s (k+1)=some (q++ [cz],r) from by rw[hS];(try simp only);rw[if_pos hxl,if_neg Z11,if_pos h4c,←hv,hcz,hu,hr])
     have hba1:w.heap.size≤(wr.alloc (.cells #[.int .u8 (cz.toNat:Int)] 5)).heap.size:=by rw[World.size_alloc];exact Nat.le_succ_of_le hb.size
     have hro:=rd_oneb wr cz
     clear hS hh hb0 hv hcz hu hr
     go_wp2_with (at_builtin;go_loud (refine wpList_app rfl _ _ 156 rfl 5 w.heap.size i0 (.int .u8 0) 1 1 Tryz.underlying156 hi hz0 hz1 hz2 rfl Z38 (.slice sa q.length sc) q.length _ Z31 (HO.out.alloc _) (.slice (some ⟨wr.heap.size,0,none⟩) 1 1) 1 (Lib.byteCells [cz]) Z31 hro (byte_one _) (by have:=HQL.out;unfold maxLen;omega) (by have:=HQL.out;omega) hba1 ?_))
     intro v1 w1 o1 hg1 hob1
     have hb1:Below w.heap.size w w1:=below_app hb hb.size hg1 (fun j e=>(HO.out.lt j e).1)
     have o1c:w1.ownsRow w.heap.size 5 1 v1 (q++ [cz]).length (Lib.byteCells (q++ [cz])):=own_cast o1 Z144 (by rw[bc_append])
     have HR:=Lib.hid (And.intro o1c hb1)
     clear o1 hg1 hob1 o1c hb1 hba1 hro
     go_wp2_with fail
     go_roundw
     case rel=>exact⟨k+1,q++ [cz],r,_,Z11,Z82,hS2.out,rfl,rfl,by rw[show((6*(k+1))% 8:Nat)=4 from Z11];rfl,HR.out⟩
     case measure=>simp[intOf];omega
    case inr.inr.inl=>
     have hyl:y<16:=by have:=hh.2.2.1 h4c;omega
     have hyl2:y<64:=by omega
     have hb0:(6*(k:Int))% 8=4:=by omega
     rw[hb0]
     obtain⟨v,hv⟩: ∃v,v=y*64+x:=⟨_,rfl⟩
     have hvl:v<4096:=by omega
     have e0:bits .or .i64 ((y:Int)*64) (x:Int)=(v:Int):=by rw[hv];exact or_64 y x Z11 hxl
     obtain⟨cz,hcz⟩: ∃cz:UInt8,cz=UInt8.ofNat (v/4):=⟨_,rfl⟩
     have e1:(v:Int)/4=((v/4:Nat):Int):=(Int.natCast_ediv v 4).symm
     obtain⟨u,hu⟩: ∃u,u=v/4:=⟨_,rfl⟩
     obtain⟨r,hr⟩: ∃r,r=v % 4:=⟨_,rfl⟩
     have e3:bits .and .i64 (v:Int) 3=(r:Int):=by rw[hr];exact and_3b v hvl
     rw[←hu] at e1 hcz
     have hul:u<256:=by omega
     have e4:IntKind.u8.wrap (u:Int)=(cz.toNat:Int):=by rw[hcz,IntKind.wrap_u8,UInt8.toNat_ofNat_of_lt' (by show u<256;exact hul)];omega
     have e5:(u:Int)% 256=(cz.toNat:Int):=by rw[←e4,IntKind.wrap_u8]
     have hyl2:y<64:=by omega
     have hS2:=Lib.hid (show un s (k+1)=some (q++ [cz],r) from by rw[hS];(try simp only);rw[if_pos hxl,if_neg Z11,if_neg Z11,if_pos h4c,←hv,hcz,hu,hr])
     have hba1:w.heap.size≤(wr.alloc (.cells #[.int .u8 (cz.toNat:Int)] 5)).heap.size:=by rw[World.size_alloc];exact Nat.le_succ_of_le hb.size
     have hro:=rd_oneb wr cz
     clear hS hh hb0 hv hcz hu hr
     go_wp2_with (at_builtin;go_loud (refine wpList_app rfl _ _ 156 rfl 5 w.heap.size i0 (.int .u8 0) 1 1 Tryz.underlying156 hi hz0 hz1 hz2 rfl Z38 (.slice sa q.length sc) q.length _ Z31 (HO.out.alloc _) (.slice (some ⟨wr.heap.size,0,none⟩) 1 1) 1 (Lib.byteCells [cz]) Z31 hro (byte_one _) (by have:=HQL.out;unfold maxLen;omega) (by have:=HQL.out;omega) hba1 ?_))
     intro v1 w1 o1 hg1 hob1
     have hb1:Below w.heap.size w w1:=below_app hb hb.size hg1 (fun j e=>(HO.out.lt j e).1)
     have o1c:w1.ownsRow w.heap.size 5 1 v1 (q++ [cz]).length (Lib.byteCells (q++ [cz])):=own_cast o1 Z144 (by rw[bc_append])
     have HR:=Lib.hid (And.intro o1c hb1)
     clear o1 hg1 hob1 o1c hb1 hba1 hro
     go_wp2_with fail
     go_roundw
     case rel=>exact⟨k+1,q++ [cz],r,_,Z11,Z82,hS2.out,rfl,rfl,by rw[show((6*(k+1))% 8:Nat)=2 from Z11];rfl,HR.out⟩
     case measure=>simp[intOf];omega
    case inr.inr.inr=>
     have hyl:y<4:=by have:=hh.2.2.2 h4c;omega
     have hyl2:y<64:=by omega
     have hb0:(6*(k:Int))% 8=2:=by omega
     rw[hb0]
     obtain⟨v,hv⟩: ∃v,v=y*64+x:=⟨_,rfl⟩
     have hvl:v<4096:=by omega
     have e0:bits .or .i64 ((y:Int)*64) (x:Int)=(v:Int):=by rw[hv];exact or_64 y x Z11 hxl
     obtain⟨cz,hcz⟩: ∃cz:UInt8,cz=UInt8.ofNat (v):=⟨_,rfl⟩
     obtain⟨u,hu⟩: ∃u,u=v:=⟨_,rfl⟩
     obtain⟨r,hr⟩: ∃r,r=0:=⟨_,rfl⟩
     have e3:bits .and .i64 (v:Int) 0=0:=and_0b v hvl
     have hul:v<256:=by omega
     have e4:IntKind.u8.wrap (v:Int)=(cz.toNat:Int):=by rw[hcz,IntKind.wrap_u8,UInt8.toNat_ofNat_of_lt' (by show v<256;exact hul)];omega
     have e5:(v:Int)% 256=(cz.toNat:Int):=by rw[←e4,IntKind.wrap_u8]
     have hyl2:y<64:=by omega
     have hS2:=Lib.hid (show un s (k+1)=some (q++ [cz],0) from by rw[hS];(try simp only);rw[if_pos hxl,if_neg Z11,if_neg Z11,if_neg Z11,←hv,hcz])
     have hba1:w.heap.size≤(wr.alloc (.cells #[.int .u8 (cz.toNat:Int)] 5)).heap.size:=by rw[World.size_alloc];exact Nat.le_succ_of_le hb.size
     have hro:=rd_oneb wr cz
     clear hS hh hb0 hv hcz hu hr
     go_wp2_with (at_builtin;go_loud (refine wpList_app rfl _ _ 156 rfl 5 w.heap.size i0 (.int .u8 0) 1 1 Tryz.underlying156 hi hz0 hz1 hz2 rfl Z38 (.slice sa q.length sc) q.length _ Z31 (HO.out.alloc _) (.slice (some ⟨wr.heap.size,0,none⟩) 1 1) 1 (Lib.byteCells [cz]) Z31 hro (byte_one _) (by have:=HQL.out;unfold maxLen;omega) (by have:=HQL.out;omega) hba1 ?_))
     intro v1 w1 o1 hg1 hob1
     have hb1:Below w.heap.size w w1:=below_app hb hb.size hg1 (fun j e=>(HO.out.lt j e).1)
     have o1c:w1.ownsRow w.heap.size 5 1 v1 (q++ [cz]).length (Lib.byteCells (q++ [cz])):=own_cast o1 Z144 (by rw[bc_append])
     have HR:=Lib.hid (And.intro o1c hb1)
     clear o1 hg1 hob1 o1c hb1 hba1 hro
     go_wp2_with fail
     go_roundw
     case rel=>exact⟨k+1,q++ [cz],0,_,Z11,Z82,hS2.out,rfl,rfl,by rw[show((6*(k+1))% 8:Nat)=0 from Z11];rfl,HR.out⟩
     case measure=>simp[intOf];omega
theorem unweb_any (s:By)(w:World)(hl:s.length≤140737488355000):
 Calls Tryz.prog 145 #[.string ⟨s.toArray⟩] w fun e w'=> ∃v,e= .returned (.tuple #[v,.int .i64 (unC (unsix s))])∧w'.ownsRow w.heap.size 5 1 v ((unsix s).getD []).length (Lib.byteCells ((unsix s).getD []))∧Below w.heap.size w w':=by
 have H:=Lib.hid (unsixes_any s w hl)
 have ht:(⟨#[65,66,67,68,69,70,71,72,73,74,75,76,77,78,79,80,81,82,83,84,85,86,87,88,89,90,97,98,99,100,101,102,103,104,105,106,107,108,109,110,111,112,113,114,115,116,117,118,119,120,121,122,48,49,50,51,52,53,54,55,56,57,45,95]⟩:ByteArray)=⟨basT.toArray⟩:=rfl
 go_enter Tryz.func145,Tryz.ntmps145
 go_wp2_with fail
 refine H.out.mono ?_
 rintro e w1 ⟨v,rfl,ho,hb⟩
 obtain⟨va,vc,e1⟩:=(Rd.of_own ho).slice
 subst e1
 have HO:=Lib.hid (And.intro ho hb)
 clear ho hb H
 go_wp2_with fail
 go_ret2
 exact⟨_,rfl,HO.out.1,HO.out.2⟩
end Go.Proofs.YtdmjegelcdghlaaGreat.Ow
