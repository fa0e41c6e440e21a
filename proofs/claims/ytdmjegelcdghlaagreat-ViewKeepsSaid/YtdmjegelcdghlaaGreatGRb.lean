/-
  Chapters 7, 17: pkce.IsVerifier, pkce.find, pkce.May, grant.shown.
-/
import Derived.Test.YtdmjegelcdghlaaGreatGRa
import Derived.Test.YtdmjegelcdghlaaGreatGRw
import Derived.Test.YtdmjegelcdghlaaGreatGEe
set_option maxRecDepth 100000
set_option maxHeartbeats 64000000
set_option linter.unusedVariables false
set_option linter.unusedSimpArgs false
namespace Go.Proofs.YtdmjegelcdghlaaGreat
theorem Z229 {p:Prop}(h:p:=by
 clear hbv hcl
 go_wp2_with fail
 refine HII.out.mono ?_
 rintro e w1 ⟨rfl,e1⟩
 subst e1
 exact Z186):p:=h
theorem Z186 {p:Prop}(h:p:=by
 go_wp2_with fail
 go_round
 case rel=>exact⟨k+1,Z11,rfl,Z81,HYE.out HOK.out⟩
 case measure=>simp[intOf];omega):p:=h
theorem Z46 {p:Prop}(h:p:=by
 have y0:=HK.cell 0 rfl
 have f0:=HK.frozen 0
 have y1:=HK.cell 1 rfl
 have f1:=HK.frozen 1
 have y2:=HK.cell 2 rfl
 have f2:=HK.frozen 2
 clear HK
 go_wp2_with fail
 try simp only[Exit.inBlock,Exit.then]
 refine ret_mt rfl rfl rfl (Se.tk_set3 (HS.out.1.alloc _) _ _ _) ?_
 exact⟨by rw[HV.out];rfl,Se.below_set3 (HS.out.2.2.alloc HS.out.2.2.size _) (Nat.le_refl _) _ _ _⟩):p:=h
theorem Z43 {p:Prop}(h:p:=by
 clear hbv hcl
 go_wp2_with fail
 refine HII.out.mono ?_
 rintro e w1 ⟨rfl,e1⟩
 subst e1
 go_wp2_with fail
 go_ret
 exact⟨by rw[HNO.out HOK.out];rfl,rfl⟩):p:=h
end Go.Proofs.YtdmjegelcdghlaaGreat
namespace Go.Proofs.YtdmjegelcdghlaaGreat.Gr
open Go.RowKit
theorem run_store_func {P:Program}(w:World)(a:Addr)(m:Mode)(f:Fn)(x y:Array Value):(store a (.func f x y) m).run P w=stored P w a (.func f x y) m:=run_store P w a _ m rfl
theorem run_store_nilFunc {P:Program}(w:World)(a:Addr)(m:Mode):(store a .nilFunc m).run P w=stored P w a .nilFunc m:=run_store P w a _ m rfl
attribute [local go_sem] run_store_func run_store_nilFunc
def okV (c:UInt8):Bool:=(97≤c&&c≤122)||(65≤c&&c≤90)||(48≤c&&c≤57)||c==45||c==46||c==95||c==126
def isV (s:By):Bool:=s.all okV&&(decide (43≤s.length)&&decide (s.length≤128))
def badV (c:Int):Bool:=(decide (c<97)||decide (122<c))&&(decide (c<65)||decide (90<c))&&(decide (c<48)||decide (57<c))&&decide (Lib.indexByte [45,46,95,126] (UInt8.ofNat c.toNat)<0)
theorem badV_all (c:UInt8):badV (c.toNat:Int)= !okV c:=by
 have key:(List.range 256).all (fun n=>badV (((UInt8.ofNat n).toNat:Nat):Int)== !okV (UInt8.ofNat n))=true:=by decide+kernel
 have:=List.all_eq_true.1 key c.toNat (List.mem_range.2 c.toNat_lt)
 simpa using this
theorem allV_take (s:By)(k:Nat)(c:UInt8)(hc:s[k]?=some c)(h:(s.take k).all okV=true)(hp:okV c=true):(s.take (k+1)).all okV=true:=by
 rw[List.take_add_one,hc,List.all_append,h];simpa using hp
theorem allV_no (s:By)(k:Nat)(c:UInt8)(hc:s[k]?=some c)(hp:okV c=false):s.all okV=false:=by
 rw[List.all_eq_false];exact⟨c,List.mem_of_getElem? hc,by simp[hp]⟩
theorem isVerifier_any (s:By)(w:World)(hl:s.length≤140737488355328):
 Calls Tryz.prog 140 #[.string ⟨s.toArray⟩] w fun e w'=>e= .returned (.bool (isV s))∧w=w':=by
 have hsz:=st_size s
 have HIX:Hid (∀(k:Nat) c W,s[k]?=some c→(Instr.index 9 (.string ⟨s.toArray⟩) (.int .i64 (k:Int))).run Tryz.prog W= .ok (.int .u8 (c.toNat:Int)) W):=Lib.hid (fun k c W hk=>by
  have h2:s.toArray[k]?=some c:=by simpa using hk
  obtain⟨h4,h5⟩:=Array.getElem?_eq_some_iff.1 h2
  exact ix_str ⟨s.toArray⟩ k h4 c h5 W)
 obtain⟨SZ,hSZ⟩: ∃SZ,SZ=s.length:=⟨_,rfl⟩
 have HSZ:=Lib.hid hSZ
 rw[←hSZ] at hsz hl
 obtain⟨sb,hsb⟩: ∃sb,sb=(⟨s.toArray⟩:ByteArray):=⟨_,rfl⟩
 rw[←hsb] at hsz HIX⊢
 clear hSZ hsb
 go_enter Tryz.func140,Tryz.ntmps140
 have HIB:Hid (∀(c:UInt8) (W:World),Calls Tryz.prog 163 #[.string ⟨#[45,46,95,126]⟩,.int .u8 (c.toNat:Int)] W fun e w'=>e= .returned (.int .i64 (Lib.indexByte [45,46,95,126] c))∧w'=W):=Lib.hid (fun c W=>by
  have key:=Tryz.strings_IndexByte ⟨#[45,46,95,126]⟩ (c.toNat:Int) W
  have e2:(c.toNat:Int).toNat.toUInt8=c:=by simp
  rw[e2] at key
  exact key)
 go_wp2_with fail
 go_loop [2,3] (fun r i=> ∃k:Nat,k≤SZ∧r= .bool false∧i= .int .i64 (k:Int)∧(s.take k).all okV=true) (fun _ i=>SZ-(intOf i).toNat)
 case atStart=>exact⟨0,Nat.zero_le _,rfl,rfl,rfl⟩
 case round=>
  obtain⟨k,hk,rfl,rfl,hall⟩:=hrel
  have HALL:=Lib.hid hall
  clear hall
  by_cases hkn:k<SZ
  case neg=>
   have g1: ¬(k:Int)<(SZ:Int):=by omega
   have HA:Hid (isV s=(decide (43≤SZ)&&decide (SZ≤128))):=Lib.hid (by
    have h1:=HALL.out
    have h2:=HSZ.out
    rw[List.take_of_length_le Z11] at h1
    unfold isV
    rw[h1,←h2];rfl)
   by_cases h43:43≤SZ
   case neg=>
    have t1: ¬(43:Int)≤(SZ:Int):=by omega
    have HR:Hid (isV s=false):=Lib.hid (by rw[HA.out,decide_eq_false h43];rfl)
    go_wp2_with fail
    go_ret
    exact⟨Z28,rfl⟩
   case pos=>
    have t1:(43:Int)≤(SZ:Int):=by omega
    by_cases h128:SZ≤128
    case neg=>
     have t2: ¬(SZ:Int)≤128:=by omega
     have HR:Hid (isV s=false):=Lib.hid (by rw[HA.out,decide_eq_false h128];simp)
     go_wp2_with fail
     go_ret
     exact⟨Z28,rfl⟩
    case pos=>
     have t2:(SZ:Int)≤128:=by omega
     have HR:Hid (isV s=true):=Lib.hid (by rw[HA.out,decide_eq_true h43,decide_eq_true h128];rfl)
     go_wp2_with fail
     go_ret
     exact⟨Z28,rfl⟩
  case pos=>
   have g1:(k:Int)<(SZ:Int):=by omega
   obtain⟨c,hc⟩: ∃c,s[k]?=some c:=⟨_,List.getElem?_eq_getElem (by have:=HSZ.out;omega)⟩
   have hix:=fun W=>HIX.out k c W hc
   have hbv:=badV_all c
   unfold badV at hbv
   rw[show(UInt8.ofNat ((c.toNat:Int)).toNat)=c from Z93] at hbv
   have hib:=HIB.out c w
   have HC:=Lib.hid hc
   have HYE:Hid (okV c=true→((s.take (k+1)).all okV=true)):=Lib.hid (fun h=>allV_take s k c HC.out HALL.out h)
   have HNO:Hid (okV c=false→isV s=false):=Lib.hid (fun h=>by unfold isV;rw[allV_no s k c HC.out h];rfl)
   obtain⟨n,hn⟩: ∃n,n=c.toNat:=⟨_,rfl⟩
   obtain⟨ok,hok⟩: ∃ok,ok=okV c:=⟨_,rfl⟩
   obtain⟨ii,hii⟩: ∃ii,ii=Lib.indexByte [45,46,95,126] c:=⟨_,rfl⟩
   rw[←hn] at hix hbv hib
   rw[←hok] at hbv HYE HNO
   rw[←hii] at hbv hib
   have HII:=Lib.hid hib
   clear hc hn hok hii hib
   obtain hcl|hcl|hcl|hcl|hcl|hcl|hcl:(97≤n∧n≤122)∨(65≤n∧n≤90)∨(48≤n∧n≤57)∨(n<48)∨(57<n∧n<65)∨(90<n∧n<97)∨(122<n):=by omega
   ·have f0: ¬(n:Int)<97:=by omega
    have f1: ¬(122:Int)<(n:Int):=by omega
    have HOK:Hid (ok=true):=Lib.hid (by simp[f0,f1] at hbv;exact hbv)
    clear hbv hcl
    exact Z186
   ·have f0:(n:Int)<97:=by omega
    have f1: ¬(n:Int)<65:=by omega
    have f2: ¬(90:Int)<(n:Int):=by omega
    have HOK:Hid (ok=true):=Lib.hid (by simp[f0,f1,f2] at hbv;exact hbv)
    clear hbv hcl
    exact Z186
   ·have f0:(n:Int)<97:=by omega
    have f1:(n:Int)<65:=by omega
    have f2: ¬(n:Int)<48:=by omega
    have f3: ¬(57:Int)<(n:Int):=by omega
    have HOK:Hid (ok=true):=Lib.hid (by simp[f0,f1,f2,f3] at hbv;exact hbv)
    clear hbv hcl
    exact Z186
   ·have f0:(n:Int)<97:=by omega
    have f1:(n:Int)<65:=by omega
    have f2:(n:Int)<48:=by omega
    by_cases hi:ii<0
    case pos=>
     have HOK:Hid (ok=false):=Lib.hid (by simp[f0,f1,f2,hi] at hbv;exact hbv)
     exact Z43
    case neg=>
     have HOK:Hid (ok=true):=Lib.hid (by simp[f0,f1,f2,hi] at hbv;exact hbv)
     exact Z229
   ·have f0:(n:Int)<97:=by omega
    have f1:(n:Int)<65:=by omega
    have f2: ¬(n:Int)<48:=by omega
    have f3:(57:Int)<(n:Int):=by omega
    by_cases hi:ii<0
    case pos=>
     have HOK:Hid (ok=false):=Lib.hid (by simp[f0,f1,f2,f3,hi] at hbv;exact hbv)
     exact Z43
    case neg=>
     have HOK:Hid (ok=true):=Lib.hid (by simp[f0,f1,f2,f3,hi] at hbv;exact hbv)
     exact Z229
   ·have f0:(n:Int)<97:=by omega
    have f1: ¬(n:Int)<65:=by omega
    have f2:(90:Int)<(n:Int):=by omega
    have f3: ¬(n:Int)<48:=by omega
    have f4:(57:Int)<(n:Int):=by omega
    by_cases hi:ii<0
    case pos=>
     have HOK:Hid (ok=false):=Lib.hid (by simp[f0,f1,f2,f3,f4,hi] at hbv;exact hbv)
     exact Z43
    case neg=>
     have HOK:Hid (ok=true):=Lib.hid (by simp[f0,f1,f2,f3,f4,hi] at hbv;exact hbv)
     exact Z229
   ·have f0: ¬(n:Int)<97:=by omega
    have f1:(122:Int)<(n:Int):=by omega
    have f2: ¬(n:Int)<65:=by omega
    have f3:(90:Int)<(n:Int):=by omega
    have f4: ¬(n:Int)<48:=by omega
    have f5:(57:Int)<(n:Int):=by omega
    by_cases hi:ii<0
    case pos=>
     have HOK:Hid (ok=false):=Lib.hid (by simp[f0,f1,f2,f3,f4,f5,hi] at hbv;exact hbv)
     exact Z43
    case neg=>
     have HOK:Hid (ok=true):=Lib.hid (by simp[f0,f1,f2,f3,f4,f5,hi] at hbv;exact hbv)
     exact Z229
def plainN:By:= [112,108,97,105,110]
def s256N:By:= [83,50,53,54]
def dec32 (cha:By):Bool:=match Ow.unsix cha with|some b=>decide (b.length=32)|none=>false
def pkMay (cha met:By):Bool:=if met=plainN then isV cha else if met=s256N then dec32 cha else false
theorem find3_any (s:By)(w:World)(hl:s.length≤140737488355000):
 Calls Tryz.prog 144 #[.string ⟨s.toArray⟩] w fun e w'=>e= .returned (.bool (dec32 s))∧Below w.heap.size w w':=by
 have H:=Lib.hid (Ow.unweb_any s w hl)
 go_enter Tryz.func144,Tryz.ntmps144
 go_wp2_with fail
 refine H.out.mono ?_
 rintro e w1 ⟨v,rfl,ho,hb⟩
 have HB:=Lib.hid hb
 have HD:Hid ((Ow.unC (Ow.unsix s)≠0∧dec32 s=false)∨(Ow.unC (Ow.unsix s)=0∧dec32 s=decide (((Ow.unsix s).getD []).length=32))):=Lib.hid (by
  unfold dec32 Ow.unC
  cases Ow.unsix s with
  |none=>exact .inl ⟨Z93,rfl⟩
  |some b=>exact .inr ⟨Z93,rfl⟩)
 obtain⟨LB,hLB⟩: ∃z,z=((Ow.unsix s).getD []).length:=⟨_,rfl⟩
 obtain⟨cn,hcn⟩: ∃z,z=Ow.unC (Ow.unsix s):=⟨_,rfl⟩
 rw[←hLB,←hcn] at HD
 rw[←hLB] at ho
 rw[←hcn]
 obtain⟨va,vc,e1⟩:=(Rd.of_own ho).slice
 subst e1
 clear ho hb H hLB hcn
 by_cases h0:cn=0
 case neg=>
  have t1:(cn==0)=false:=by simpa using h0
  have HR:Hid (dec32 s=false):=Lib.hid (by
   rcases HD.out with h|h
   ·exact h.2
   ·exact absurd h.1 h0)
  go_wp2_with fail
  go_ret
  exact⟨Z28,HB.out⟩
 case pos=>
  subst h0
  have HR:Hid (dec32 s=decide (LB=32)):=Lib.hid (by
   rcases HD.out with h|h
   ·exact absurd rfl h.1
   ·exact h.2)
  by_cases h32:LB=32
  case pos=>
   subst h32
   go_wp2_with fail
   go_ret
   exact⟨Z28,HB.out⟩
  case neg=>
   have t2:((LB:Int)==32)=false:=by simp;omega
   have HR2:Hid (dec32 s=false):=Lib.hid (by rw[HR.out,decide_eq_false h32])
   go_wp2_with fail
   go_ret
   exact⟨by rw[HR2.out];rfl,HB.out⟩
theorem ret_mt {fn:Func}{p u:Tmp}(hres:fn.results= #[.cell p 149,.tmp u]){a:Act}(hd:a.defers= []){W:World}{b:Nat}{ty:TypeId}{x0 x1 x2:Value}(hp:a.tmps.getD p undef= .pointer (some ⟨b,0,none⟩))(hb:Blk W b ty [x0,x1,x2]){R:Ending→World→Prop}
 (hR:R (.returned (.tuple #[.agg #[x0,x1,x2],a.tmps.getD u undef])) W):bodyPost Tryz.prog fn R .ret a W:=by
 have c0:=hb.cell 0 rfl
 have c1:=hb.cell 1 rfl
 have c2:=hb.cell 2 rfl
 have t2:a.tmps[p]?.getD undef= .pointer (some ⟨b,0,none⟩):=by rw[←hp,Array.getD_eq_getD_getElem?]
 refine bodyPost_ret (v:= .tuple #[.agg #[x0,x1,x2],a.tmps.getD u undef]) ?_ hd hR
 simp[results,hres,go_sem,t2,c0,c1,c2]
def mV (met:By):Value×Bool:=if met=plainN then(.agg #[.string ⟨#[112,108,97,105,110]⟩,.func (Fn.func 139) #[] #[],.func (Fn.func 140) #[] #[]],true) else if met=s256N then(.agg #[.string ⟨#[83,50,53,54]⟩,.func (Fn.func 141) #[] #[],.func (Fn.func 144) #[] #[]],true) else(.agg #[.string ⟨#[]⟩,.nilFunc,.nilFunc],false)
theorem pkFind_any (met:By)(w:World):
 Calls Tryz.prog 126 #[.string ⟨met.toArray⟩] w fun e w'=>e= .returned (.tuple #[(mV met).1,.bool (mV met).2])∧Below w.heap.size w w':=by
 have hmf: ∀(fn:Fn) (first cap:Array Value) (w:World),(Instr.makeFunc fn first cap).run Tryz.prog w= .ok (.func fn first cap) w:=fun _ _ _ _=>rfl
 have hB1:Below w.heap.size w (w.alloc (.cells #[.string ⟨#[]⟩,.nilFunc,.nilFunc] 149)):=(Below.refl _ _).alloc (Nat.le_refl _) _
 have hB2:=hB1.alloc hB1.size (.cells #[.string ⟨#[112,108,97,105,110]⟩,.func (Fn.func 139) #[] #[],.func (Fn.func 140) #[] #[],.string ⟨#[83,50,53,54]⟩,.func (Fn.func 141) #[] #[],.func (Fn.func 144) #[] #[]] 149)
 have hk1:=(Blk.new w 149 [.string ⟨#[]⟩,.nilFunc,.nilFunc]).alloc (.cells #[.string ⟨#[112,108,97,105,110]⟩,.func (Fn.func 139) #[] #[],.func (Fn.func 140) #[] #[],.string ⟨#[83,50,53,54]⟩,.func (Fn.func 141) #[] #[],.func (Fn.func 144) #[] #[]] 149)
 have hk2:=Blk.new (w.alloc (.cells #[.string ⟨#[]⟩,.nilFunc,.nilFunc] 149)) 149 [.string ⟨#[112,108,97,105,110]⟩,.func (Fn.func 139) #[] #[],.func (Fn.func 140) #[] #[],.string ⟨#[83,50,53,54]⟩,.func (Fn.func 141) #[] #[],.func (Fn.func 144) #[] #[]]
 rw[World.size_alloc] at hk2
 have HS0:=Lib.hid (And.intro hk1 (And.intro hk2 hB2))
 clear hB1 hB2 hk1 hk2
 go_enter Tryz.func126,Tryz.ntmps126
 go_wp2_with fail
 obtain⟨W0,hW0⟩: ∃W0,W0=((w.alloc (.cells #[.string ⟨#[]⟩,.nilFunc,.nilFunc] 149)).alloc (.cells #[.string ⟨#[112,108,97,105,110]⟩,.func (Fn.func 139) #[] #[],.func (Fn.func 140) #[] #[],.string ⟨#[83,50,53,54]⟩,.func (Fn.func 141) #[] #[],.func (Fn.func 144) #[] #[]] 149)):=⟨_,rfl⟩
 have hs0:=HS0.out
 change Blk ((w.alloc (.cells #[.string ⟨#[]⟩,.nilFunc,.nilFunc] 149)).alloc (.cells #[.string ⟨#[112,108,97,105,110]⟩,.func (Fn.func 139) #[] #[],.func (Fn.func 140) #[] #[],.string ⟨#[83,50,53,54]⟩,.func (Fn.func 141) #[] #[],.func (Fn.func 144) #[] #[]] 149)) _ _ _∧Blk ((w.alloc (.cells #[.string ⟨#[]⟩,.nilFunc,.nilFunc] 149)).alloc (.cells #[.string ⟨#[112,108,97,105,110]⟩,.func (Fn.func 139) #[] #[],.func (Fn.func 140) #[] #[],.string ⟨#[83,50,53,54]⟩,.func (Fn.func 141) #[] #[],.func (Fn.func 144) #[] #[]] 149)) _ _ _∧_ at hs0
 rw[←hW0] at hs0⊢
 clear hW0 HS0
 go_loopw [3,10] (fun r i wr=> ∃k:Nat,k≤2∧r= .bool false∧i= .int .i64 (k:Int)∧(1≤k→met≠plainN)∧(2≤k→met≠s256N)∧Blk wr w.heap.size 149 [.string ⟨#[]⟩,.nilFunc,.nilFunc]∧Blk wr (w.heap.size+1) 149 [.string ⟨#[112,108,97,105,110]⟩,.func (Fn.func 139) #[] #[],.func (Fn.func 140) #[] #[],.string ⟨#[83,50,53,54]⟩,.func (Fn.func 141) #[] #[],.func (Fn.func 144) #[] #[]]∧Below w.heap.size w wr) (fun _ i _=>2-(intOf i).toNat)
 case atStart=>exact⟨0,Z11,rfl,rfl,fun h=>absurd h Z11,fun h=>absurd h Z11,hs0⟩
 case round=>
  clear hs0
  obtain⟨k,hk,rfl,rfl,hn0,hn1,hs⟩:=hrel
  have HN0:=Lib.hid hn0
  have HN1:=Lib.hid hn1
  have HS:=Lib.hid hs
  clear hn0 hn1 hs
  obtain hk0|hk0|hk0:k=0∨k=1∨k=2:=by omega
  ·subst hk0
   have d0:wr.cell? ⟨w.heap.size+1,0,none⟩=some (.string ⟨#[112,108,97,105,110]⟩):=HS.out.2.1.cell 0 rfl
   have d1:wr.cell? ⟨w.heap.size+1,1,none⟩=some (.func (Fn.func 139) #[] #[]):=HS.out.2.1.cell 1 rfl
   have d2:wr.cell? ⟨w.heap.size+1,2,none⟩=some (.func (Fn.func 140) #[] #[]):=HS.out.2.1.cell 2 rfl
   by_cases hm:met=plainN
   case pos=>
    have h1:(plainN==met)=true:=by rw[hm];rfl
    have h2:=str_eq h1
    have h3:(met==plainN)=true:=by rw[hm];rfl
    have HV:Hid (mV met=(.agg #[.string ⟨#[112,108,97,105,110]⟩,.func (Fn.func 139) #[] #[],.func (Fn.func 140) #[] #[]],true)):=Lib.hid (by unfold mV;rw[if_pos hm])
    unfold plainN at h1 h2 h3
    clear hm
    have HK:=HS.out.1.alloc (.cells #[.string ⟨#[112,108,97,105,110]⟩,.func (Fn.func 139) #[] #[],.func (Fn.func 140) #[] #[]] 149)
    exact Z46
   case neg=>
    have h1:(plainN==met)=false:=by simpa using fun e=>hm e.symm
    have h2:=str_ne h1
    have HN2:=Lib.hid hm
    unfold plainN at h1 h2
    clear hm
    go_wp2_with fail
    go_roundw
    case rel=>exact⟨1,Z11,rfl,Z81,fun h=>HN2.out,fun h=>absurd h Z11,HS.out.1.alloc _,HS.out.2.1.alloc _,HS.out.2.2.alloc HS.out.2.2.size _⟩
    case measure=>simp[intOf]
  ·subst hk0
   have d0:wr.cell? ⟨w.heap.size+1,3,none⟩=some (.string ⟨#[83,50,53,54]⟩):=HS.out.2.1.cell 3 rfl
   have d1:wr.cell? ⟨w.heap.size+1,4,none⟩=some (.func (Fn.func 141) #[] #[]):=HS.out.2.1.cell 4 rfl
   have d2:wr.cell? ⟨w.heap.size+1,5,none⟩=some (.func (Fn.func 144) #[] #[]):=HS.out.2.1.cell 5 rfl
   by_cases hm:met=s256N
   case pos=>
    have h1:(s256N==met)=true:=by rw[hm];rfl
    have h2:=str_eq h1
    have h3:(met==s256N)=true:=by rw[hm];rfl
    have HV:Hid (mV met=(.agg #[.string ⟨#[83,50,53,54]⟩,.func (Fn.func 141) #[] #[],.func (Fn.func 144) #[] #[]],true)):=Lib.hid (by unfold mV;rw[if_neg (HN0.out Z11),if_pos hm])
    unfold s256N at h1 h2 h3
    clear hm
    have HK:=HS.out.1.alloc (.cells #[.string ⟨#[83,50,53,54]⟩,.func (Fn.func 141) #[] #[],.func (Fn.func 144) #[] #[]] 149)
    exact Z46
   case neg=>
    have h1:(s256N==met)=false:=by simpa using fun e=>hm e.symm
    have h2:=str_ne h1
    have HN2:=Lib.hid hm
    unfold s256N at h1 h2
    clear hm
    go_wp2_with fail
    go_roundw
    case rel=>exact⟨2,Z11,rfl,Z81,fun h=>HN0.out Z11,fun h=>HN2.out,HS.out.1.alloc _,HS.out.2.1.alloc _,HS.out.2.2.alloc HS.out.2.2.size _⟩
    case measure=>simp[intOf]
  ·subst hk0
   have HV:Hid (mV met=(.agg #[.string ⟨#[]⟩,.nilFunc,.nilFunc],false)):=Lib.hid (by unfold mV;rw[if_neg (HN0.out Z11),if_neg (HN1.out Z11)])
   have y0:=HS.out.1.cell 0 rfl
   have f0:=HS.out.1.frozen 0
   have y1:=HS.out.1.cell 1 rfl
   have f1:=HS.out.1.frozen 1
   have y2:=HS.out.1.cell 2 rfl
   have f2:=HS.out.1.frozen 2
   go_wp2_with fail
   try simp only[Exit.inBlock,Exit.then]
   refine ret_mt rfl rfl rfl (Se.tk_set3 HS.out.1 _ _ _) ?_
   exact⟨by rw[HV.out];rfl,Se.below_set3 HS.out.2.2 (Nat.le_refl _) _ _ _⟩
theorem pkMay_any (cha met:By)(w:World)(hl:cha.length≤140737488355000):
 Calls Tryz.prog 115 #[.string ⟨cha.toArray⟩,.string ⟨met.toArray⟩] w fun e w'=>e= .returned (.bool (pkMay cha met))∧Below w.heap.size w w':=by
 have HF:=Lib.hid (pkFind_any met w)
 have HV:=Lib.hid (isVerifier_any cha · Z11)
 have H3:=Lib.hid (find3_any cha · hl)
 by_cases hp:met=plainN
 case pos=>
  have HR:Hid (pkMay cha met=isV cha):=Lib.hid (by unfold pkMay;rw[if_pos hp])
  have e1:mV met=(.agg #[.string ⟨#[112,108,97,105,110]⟩,.func (Fn.func 139) #[] #[],.func (Fn.func 140) #[] #[]],true):=by unfold mV;rw[if_pos hp]
  rw[e1] at HF
  clear hp e1
  go_enter Tryz.func115,Tryz.ntmps115
  go_wp2_with fail
  refine HF.out.mono ?_
  rintro e w1 ⟨rfl,hb1⟩
  have HB1:=Lib.hid hb1
  clear hb1
  go_wp2_with fail
  refine(HV.out _).mono ?_
  rintro e w2 ⟨rfl,e2⟩
  subst e2
  go_wp2_with fail
  go_ret
  exact⟨Z28,HB1.out.alloc HB1.out.size _⟩
 case neg=>
 by_cases hs:met=s256N
 case pos=>
  have HR:Hid (pkMay cha met=dec32 cha):=Lib.hid (by unfold pkMay;rw[if_neg hp,if_pos hs])
  have e1:mV met=(.agg #[.string ⟨#[83,50,53,54]⟩,.func (Fn.func 141) #[] #[],.func (Fn.func 144) #[] #[]],true):=by unfold mV;rw[if_neg hp,if_pos hs]
  rw[e1] at HF
  clear hp hs e1
  go_enter Tryz.func115,Tryz.ntmps115
  go_wp2_with fail
  refine HF.out.mono ?_
  rintro e w1 ⟨rfl,hb1⟩
  have HB1:=Lib.hid hb1
  clear hb1
  go_wp2_with fail
  refine(H3.out _).mono ?_
  rintro e w2 ⟨rfl,hb2⟩
  have HB2:=Lib.hid (Se.below_step (HB1.out.alloc HB1.out.size _) hb2)
  clear hb2
  go_wp2_with fail
  go_ret
  exact⟨Z28,HB2.out⟩
 case neg=>
  have HR:Hid (pkMay cha met=false):=Lib.hid (by unfold pkMay;rw[if_neg hp,if_neg hs])
  have e1:mV met=(.agg #[.string ⟨#[]⟩,.nilFunc,.nilFunc],false):=by unfold mV;rw[if_neg hp,if_neg hs]
  rw[e1] at HF
  clear hp hs e1
  go_enter Tryz.func115,Tryz.ntmps115
  go_wp2_with fail
  refine HF.out.mono ?_
  rintro e w1 ⟨rfl,hb1⟩
  have HB1:=Lib.hid hb1
  clear hb1
  go_wp2_with fail
  go_ret
  exact⟨Z28,HB1.out.alloc HB1.out.size _⟩
def shownC (cha met:By):Bool:=if cha= [] then met.isEmpty else pkMay cha met
theorem gshown_any (cha met:By)(w:World)(hl:cha.length≤140737488355000):
 Calls Tryz.prog 100 #[.string ⟨cha.toArray⟩,.string ⟨met.toArray⟩] w fun e w'=>e= .returned (.bool (shownC cha met))∧Below w.heap.size w w':=by
 by_cases hc:cha= []
 case pos=>
  subst hc
  have HR:Hid (shownC [] met=met.isEmpty):=Lib.hid (by unfold shownC;rw[if_pos rfl])
  by_cases hm:met= []
  case pos=>
   subst hm
   go_enter Tryz.func100,Tryz.ntmps100
   exact Z203
  case neg=>
   have hne:(met==([]:By))=false:=by simpa using hm
   have hne2:=str_ne hne
   have hne3:((⟨met.toArray⟩:ByteArray).toList==(⟨#[]⟩:ByteArray).toList)=false:=hne2
   have hne5:List.isEmpty met=false:=by rw[List.isEmpty_eq_false_iff];exact hm
   have HR2:Hid (shownC [] met=false):=Lib.hid (by rw[HR.out,hne5])
   clear hm hne hne2
   go_enter Tryz.func100,Tryz.ntmps100
   go_wp2_with fail
   go_ret
   exact⟨by rw[HR2.out];rfl,Below.refl _ _⟩
 case neg=>
  have hne:(cha==([]:By))=false:=by simpa using hc
  have hne2:=str_ne hne
  have hne3:((⟨cha.toArray⟩:ByteArray).toList==(⟨#[]⟩:ByteArray).toList)=false:=hne2
  have hne5:List.isEmpty cha=false:=by rw[List.isEmpty_eq_false_iff];exact hc
  have HR:Hid (shownC cha met=pkMay cha met):=Lib.hid (by unfold shownC;rw[if_neg hc])
  have HP:=Lib.hid (pkMay_any cha met w hl)
  clear hc hne hne2
  go_enter Tryz.func100,Tryz.ntmps100
  go_wp2_with fail
  refine HP.out.mono ?_
  rintro e w1 ⟨rfl,hb1⟩
  have HB1:=Lib.hid hb1
  clear hb1
  go_wp2_with fail
  go_ret
  exact⟨Z28,HB1.out⟩
end Go.Proofs.YtdmjegelcdghlaaGreat.Gr
