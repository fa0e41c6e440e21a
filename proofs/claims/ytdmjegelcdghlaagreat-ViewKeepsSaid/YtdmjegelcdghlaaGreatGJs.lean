/-
  Chapter 5, plain lists of bytes: members and their text, what a text is parsed to. No program here.
-/
import Derived.Lib.ItoaNum
import Derived.Lib.ItoaMem
import Derived.Lib.AtoiAll
import Derived.Lib.AtoiAllCases
import Derived.Test.YtdmjegelcdghlaaGreatGGen
import Derived.Test.YtdmjegelcdghlaaGreatGShelf
import Derived.Test.YtdmjegelcdghlaaGreatGHa
import Derived.Deep.RegionHeld3
import Derived.Lib.AppendIntMem
import Derived.LoopN
import Derived.Test.YtdmjegelcdghlaaGreatGApp
set_option maxRecDepth 100000
set_option maxHeartbeats 64000000
set_option linter.unusedVariables false
set_option linter.unusedSimpArgs false
namespace Go.Proofs.YtdmjegelcdghlaaGreat.Js
abbrev By:=List UInt8
structure Mb where
 nm:By
 kd:Int
 tx:By
 n:Int
 b:Bool
def bt (b:Bool):By:=if b then[116,114,117,101] else[102,97,108,115,101]
def wo (c:UInt8):Option UInt8:=if 48≤c&&c≤57 then some (c-48) else if 97≤c&&c≤102 then some (c-87) else none
def strP:By→Option (By×By)
 | []=>none
 |c::r=>if c=34 then some ([],r) else if c<32∨c>126 then none else if c=92 then
  match r with
  | []=>none
  |d::r1=>if d=117 then
   match r1 with
   |p::q::a::b::r2=>if p=48∧q=48 then
    match wo a,wo b with
    |some x,some y=>if 32≤x*16+y∧x*16+y≤126 then none else(strP r2).map fun z=>((x*16+y)::z.1,z.2)
    |_,_=>none
    else none
   |_=>none
   else if d=34∨d=92 then(strP r1).map fun z=>(d::z.1,z.2) else none
  else(strP r).map fun z=>(c::z.1,z.2)
def tak (p s:By):Option By:=if p.isPrefixOf s then some (s.drop p.length) else none
def strQ (s:By):Option (By×By):=(tak [34] s).bind strP
def isN (c:UInt8):Bool:=(48≤c&&c≤57)||c==45
def num (s:By):Option (Int×By):=match Lib.atoiAll (s.takeWhile isN) with
 | .ok v=>if Lib.itoa v=s.takeWhile isN then some (v,s.dropWhile isN) else none
 |_=>none
def val (nm s:By):Option (Mb×By):=
 if s.head?=some 34 then(strQ s).map fun p=>(⟨nm,0,p.1,0,false⟩,p.2)
 else if s.head?=some 116 then(tak (bt true) s).map fun r=>(⟨nm,2,[],0,true⟩,r)
 else if s.head?=some 102 then(tak (bt false) s).map fun r=>(⟨nm,2,[],0,false⟩,r)
 else(num s).map fun p=>(⟨nm,1,[],p.1,false⟩,p.2)
end Go.Proofs.YtdmjegelcdghlaaGreat.Js
namespace Go.Proofs.YtdmjegelcdghlaaGreat
open Go.RowKit
namespace Cut
abbrev By:=List UInt8
def before (l:By)(c:UInt8):By:=l.takeWhile (· !=c)
def after (l:By)(c:UInt8):By:=l.drop ((before l c).length+1)
def has (l:By)(c:UInt8):Bool:=l.contains c
end Cut
end Go.Proofs.YtdmjegelcdghlaaGreat
namespace Go.Proofs.YtdmjegelcdghlaaGreat.Se
abbrev By:=List UInt8
structure Tk where
 kd:Int
 fam:By
 ser:Int
def sgn (c:UInt8):Bool:=(97≤c.toNat&&c.toNat≤122)||(65≤c.toNat&&c.toNat≤90)||(48≤c.toNat&&c.toNat≤57)||c.toNat==45||c.toNat==95
def Right (t:Tk):Prop:=t.fam.all sgn=true∧1≤t.kd∧t.kd≤3∧1≤t.fam.length∧t.fam.length≤32∧0≤t.ser∧t.ser≤1099511627776
instance (t:Tk):Decidable (Right t):=by unfold Right;infer_instance
def ltrs:By:= [63,99,97,114]
def ltr (k:Int):UInt8:=ltrs.getD k.toNat 0
def head (t:Tk):By:=ltr t.kd::46::(t.fam++46::(Lib.itoa t.ser++ [46]))
def webT:By:= [65,66,67,68,69,70,71,72,73,74,75,76,77,78,79,80,81,82,83,84,85,86,87,88,89,90,97,98,99,100,101,102,103,104,105,106,107,108,109,110,111,112,113,114,115,116,117,118,119,120,121,122,48,49,50,51,52,53,54,55,56,57,45,95]
def sg (n:Nat):UInt8:=webT.getD n 0
def web:By→By
 |a::b::c::r=>sg (a.toNat/4)::sg (a.toNat % 4*16+b.toNat/16)::sg (b.toNat % 16*4+c.toNat/64)::sg (c.toNat % 64)::web r
 |_=> []
def tag (sec h:By):By:=web ((Sh.mac sec h).take 12)
def mk (sec:By)(t:Tk):By×Int:=if Right t then(head t++tag sec (head t),0) else([],1)
def cut (s:By):Option (By×By):=if s.contains 46 then some (Cut.before s 46,Cut.after s 46) else none
def fit (s k f s3:By)(v:Int):Prop:=k.length=1∧Right ⟨Lib.index ltrs k,f,v⟩∧head ⟨Lib.index ltrs k,f,v⟩++s3=s∧s3.length=16∧s3.all sgn=true
instance (s k f s3:By) (v:Int):Decidable (fit s k f s3 v):=by unfold fit;infer_instance
def peek (s:By):Option Tk:=match cut s with
 |none=>none
 |some (k,s1)=>match cut s1 with
  |none=>none
  |some (f,s2)=>match cut s2 with
   |none=>none
   |some (n,s3)=>match Lib.atoiAll n with
    | .ok v=>if fit s k f s3 v then some ⟨Lib.index ltrs k,f,v⟩ else none
    |_=>none
def zt:Tk:=⟨0,[],0⟩
def opn (sec s:By):Tk×Int:=match peek s with
 |none=>(zt,3)
 |some t=>if(mk sec t).1=s then(t,0) else(zt,5)
end Go.Proofs.YtdmjegelcdghlaaGreat.Se
namespace Go.Proofs.YtdmjegelcdghlaaGreat
theorem Z159 {p:Prop}(h:p:=by
 go_wp2
 all_goals(go_ret;refine⟨ret_bool' ?_,rfl⟩;rw[Bool.eq_iff_iff];simp;try omega)):p:=h
end Go.Proofs.YtdmjegelcdghlaaGreat
namespace Go.Proofs.YtdmjegelcdghlaaGreat.Se
open Go.RowKit
theorem below_step {B:Nat}{a w w':World}(h:Below B a w)(hb:Below w.heap.size w w')(hB:B≤a.heap.size:=by exact Nat.le_refl _):Below B a w':=h.trans (hb.mono (Nat.le_trans hB h.size))
theorem ret_bool' {a b:Bool}(h:a=b):Ending.returned (.bool a)=Ending.returned (.bool b):=by rw[h]
theorem sign_any (c:UInt8)(w:World):Calls Tryz.prog 124 #[.int .u8 (c.toNat:Int)] w fun e w'=>e= .returned (.bool (sgn c))∧w'=w:=by
 have hc:=c.toNat_lt
 generalize hn:c.toNat=n at hc
 have hs:sgn c=((97≤n&&n≤122)||(65≤n&&n≤90)||(48≤n&&n≤57)||n==45||n==95):=by unfold sgn;rw[hn]
 rw[hs]
 clear hs hn
 go_enter Tryz.func124,Tryz.ntmps124
 exact Z159
end Go.Proofs.YtdmjegelcdghlaaGreat.Se
