/-
  Chapter 21, plain: majorities, crowds, ranks. No program here.
-/
import Derived.Test.YtdmjegelcdghlaaGreatProg
import Derived.Test.YtdmjegelcdghlaaGreatGGen
import Derived.Sort.OwnSortedInts
import Derived.OwnWalk
import Derived.Laws.OwnMore
import Derived.Test.YtdmjegelcdghlaaGreatGShelf
import Derived.Deep.QuietTactic
import Derived.BigQuiet
import Derived.Laws.Bits64b
set_option maxRecDepth 100000
set_option maxHeartbeats 64000000
set_option linter.unusedVariables false
set_option linter.unusedSimpArgs false
namespace Go.Proofs.YtdmjegelcdghlaaGreat
theorem Z16 {p:Prop}(h:p:=by omega):p:=h
end Go.Proofs.YtdmjegelcdghlaaGreat
namespace Go.Proofs.YtdmjegelcdghlaaGreat.Qs
def maj (n:Int):Int:=if n<1∨7<n then 0 else n/2+1
def prim (v n:Int):Int:=if n<1∨7<n∨v<0 then-1 else v % n
def has (l:List Int)(i:Nat):Int:=max (l.getD i 0) 0
def rising (l:List Int)(n:Nat):List Int:=((List.range n).map (has l)).mergeSort fun x y=>decide (x≤y)
def part (l:List Int)(n j:Nat):List Int:=(List.range j).map (has l)++List.replicate (n-j) 0
theorem part_len (l:List Int)(n j:Nat)(h:j≤n):(part l n j).length=n:=by simp[part];omega
theorem part_set (l:List Int)(n j:Nat)(h:j<n):part l n (j+1)=(part l n j).set j (has l j):=by
 unfold part
 rw[List.range_succ,List.map_append,show n-j=(n-(j+1))+1 from Z16,List.replicate_succ,List.set_append]
 simp
theorem part_same (l:List Int)(n j:Nat)(h:j<n)(h0:has l j=0):part l n (j+1)=part l n j:=by
 unfold part
 rw[List.range_succ,List.map_append,show n-j=(n-(j+1))+1 from Z16,List.replicate_succ]
 simp[h0]
theorem part_all (l:List Int)(n:Nat):part l n n=(List.range n).map (has l):=by simp[part]
theorem rising_len (l:List Int)(n:Nat):(rising l n).length=n:=by simp[rising]
def reached (l:List Int)(n:Int):Int:=if n<1∨7<n then 0 else(rising l n.toNat).getD (n-maj n).toNat 0
def stable (l:List Int)(n:Int):Int:=if n<1∨7<n then 0 else(rising l n.toNat).getD 0 0
end Go.Proofs.YtdmjegelcdghlaaGreat.Qs
namespace Go.Proofs.YtdmjegelcdghlaaGreat
open Go.RowKit
theorem seven {n:Int}(h: ¬(n<1∨7<n)):n=1∨n=2∨n=3∨n=4∨n=5∨n=6∨n=7:=by omega
theorem maj_any (n:Int)(w:World):
 Calls Tryz.prog 41 #[.int .i64 n] w fun e w'=>e= .returned (.int .i64 (Qs.maj n))∧w=w':=by
 by_cases h:n<1∨7<n
 ·have hr:Qs.maj n=0:=by unfold Qs.maj;rw[if_pos h]
  rw[hr]
  clear hr
  by_cases h1:n<1
  ·clear h
   go_enter Tryz.func41,Tryz.ntmps41
   go_wp2
   go_ret
   exact⟨rfl,rfl⟩
  ·have h2:(7:Int)<n:=by omega
   have h3:decide (n<1)=false:=by simp;omega
   clear h h1
   go_enter Tryz.func41,Tryz.ntmps41
   go_wp2
   go_ret
   exact⟨rfl,rfl⟩
 ·rcases seven h with rfl|rfl|rfl|rfl|rfl|rfl|rfl
  all_goals
   clear h
   go_enter Tryz.func41,Tryz.ntmps41
   go_wp2
   go_ret
   exact⟨rfl,rfl⟩
theorem Z100 {p:Prop}(h:p:=by
 go_enter Tryz.func87,Tryz.ntmps87
 go_wp2_with fail
 refine(hm.out _).mono ?_
 rintro e w1 ⟨rfl,e1⟩
 subst e1
 go_wp2
 go_ret
 exact⟨rfl,rfl⟩):p:=h
open Go.RowKit
theorem prim_any (v n:Int)(w:World):
 Calls Tryz.prog 87 #[.int .i64 v,.int .i64 n] w fun e w'=>e= .returned (.int .i64 (Qs.prim v n))∧w=w':=by
 by_cases h:n<1∨7<n
 ·have hr:Qs.maj n=0:=by unfold Qs.maj;rw[if_pos h]
  have hp:Qs.prim v n= -1:=by unfold Qs.prim;rw[if_pos Z11]
  have hm:=Lib.hid (fun w=>maj_any n w)
  rw[hp]
  simp only[hr] at hm
  clear hr hp h
  exact Z100
 ·by_cases hv:v<0
  ·have hp:Qs.prim v n= -1:=by unfold Qs.prim;rw[if_pos Z11]
   have hr:((Qs.maj n==0)=false):=by unfold Qs.maj;rw[if_neg h];simp;omega
   have hm:=Lib.hid (fun w=>maj_any n w)
   rw[hp]
   generalize Qs.maj n=m at hm hr
   clear hp h
   exact Z100
  ·have hp:Qs.prim v n=v % n:=by unfold Qs.prim;rw[if_neg Z11]
   have hr:((Qs.maj n==0)=false):=by unfold Qs.maj;rw[if_neg h];simp;omega
   have hm:=Lib.hid (fun w=>maj_any n w)
   have hv':decide (v<0)=false:=by simp;omega
   have hn: ¬n=0:=by omega
   have HP:=Lib.hid hp
   generalize Qs.maj n=m at hm hr
   clear hp h
   go_enter Tryz.func87,Tryz.ntmps87
   go_wp2_with fail
   refine(hm.out _).mono ?_
   rintro e w1 ⟨rfl,e1⟩
   subst e1
   go_wp2
   go_ret
   exact⟨by rw[HP.out];rfl,rfl⟩
theorem Z84 {p:Prop}(h:p:=by go_num):p:=h
theorem Z68 {p:Prop}(h:p:=by unfold maxLen;omega):p:=h
open Go.RowKit Go.Sort
theorem int_info:(Tryz.prog.info? 3).map (fun i=>(i.zero,i.size,i.bytes))=some (some (.int .i64 0),1,8):=by kernel_rfl
theorem info_parts3 {P:Program}{t:TypeId}{z:Value}{s b:Nat}(h:(P.info? t).map (fun i=>(i.zero,i.size,i.bytes))=some (some z,s,b)): ∃i,P.info? t=some i∧i.zero=some z∧i.size=s∧i.bytes=b:=by
 cases hi:P.info? t with
 |none=>rw[hi] at h;cases h
 |some i=>rw[hi] at h;simp at h;exact⟨i,rfl,h.1,h.2.1,h.2.2⟩
theorem blk_full {w:World}{B g n:Nat}{e:TypeId}{xs:List Value}(h:w.ownsRow B e 1 (.slice (some ⟨g,0,none⟩) n n) n xs):Blk w g e xs:=by
 rcases h.2 with⟨h0,_⟩|⟨g',cap,cur,hv,_,hh,_,_,hcs,ht⟩
 ·cases h0
 ·cases hv
  unfold Blk
  rw[hh,←ht,List.take_of_length_le (by simp[hcs])]
theorem rising_any (v:Value)(l:List Int)(n:Nat)(w:World)(h:Rd w 1 v l.length (l.map (Value.int .i64)))(hn:1≤n∧n≤7):
 Calls Tryz.prog 101 #[v,.int .i64 n] w fun e w'=> ∃g,e= .returned (.slice (some ⟨g,0,none⟩) n n)∧w'.ownsRow w.heap.size 3 1 (.slice (some ⟨g,0,none⟩) n n) n ((Qs.rising l n).map (Value.int .i64))∧Below w.heap.size w w':=by
 obtain⟨a,c,rfl⟩:=h.slice
 obtain⟨i0,hi,hz0,hz1,hz2⟩:=info_parts3 int_info
 have HH:=Lib.hid h
 clear h
 go_enter Tryz.func101,Tryz.ntmps101
 go_wp2_with (at_make;go_loud (refine wpList_make_full _ rfl (.tmp 7) (.tmp 7) 67 rfl w.heap.size 3 i0 (.int .i64 0) 1 Tryz.underlying67 hi hz0 hz1 .i64 .i64 n n n rfl rfl rfl rfl (by rw[hz2];omega) Z68 (Nat.le_refl _) ?_))
 intro w1 hown hgrow
 rw[toList_madeCells_one] at hown
 have hB:=blk_full hown
 have hb1:Below w.heap.size w w1:=(Below.refl _ _).grown hgrow (Nat.le_refl _) (fun k e=>by cases e)
 clear hown hgrow
 have hB':Blk w1 w.heap.size 3 ((Qs.part l n 0).map (Value.int .i64)):=by simpa[Qs.part] using hB
 clear hB
 go_wp2_with fail
 go_loopw [11] (fun i wr=> ∃j:Nat,j≤n∧i= .int .i64 j∧Blk wr w.heap.size 3 ((Qs.part l n j).map (Value.int .i64))∧Below w.heap.size w wr) (fun i _=>7-(intOf i).toNat)
 case atStart=>exact⟨0,Z11,rfl,hB',hb1⟩
 case round=>
  obtain⟨j,hj,rfl,hB,hb⟩:=hrel
  by_cases hjn:j<n
  ·by_cases hjl:j<l.length
   ·have hs:=Qs.part_set l n j hjn
    have hx:Qs.has l j=max l[j] 0:=by simp[Qs.has,List.getD,hjl]
    have HS:=Lib.hid hs
    obtain⟨b,o,cap,e1,hcap,hc⟩:=(HH.out.below hb).pos Z11
    cases e1
    have q1:=hc j (.int .i64 l[j]) (by simp[hjl])
    obtain⟨u0,hu0⟩: ∃u,((Qs.part l n j).map (Value.int .i64))[j]?=some u:=⟨_,List.getElem?_eq_getElem (by rw[List.length_map,Qs.part_len _ _ _ hj];exact hjn)⟩
    have d0:=hB.cell _ hu0
    have f0:=hB.frozen j
    have HX:=Lib.hid hx
    clear hs hc hu0 hx
    generalize l[j]=x at*
    go_wp2
    go_round
    case rel=>
     refine⟨j+1,Z11,Z84,?_,hb.setCell (p:=⟨w.heap.size,j,none⟩) (Nat.le_refl _) _⟩
     rw[HS.out,List.map_set,HX.out]
     exact hB.set j _
    case measure=>simp[intOf];omega
   ·have hjl':decide ((j:Int)<(l.length:Int))=false:=by simp;omega
    have hjl2:decide (j<l.length)=false:=by simp;omega
    have hs:=Qs.part_same l n j hjn (by simp[Qs.has,List.getD,List.getElem?_eq_none (show l.length≤j by omega)])
    have HS:=Lib.hid hs
    clear hs
    go_wp2
    go_round
    case rel=>exact⟨j+1,Z11,Z84,by rw[HS.out];exact hB,hb⟩
    case measure=>simp[intOf];omega
  ·have hj':j=n:=by omega
   subst hj'
   have hlt:=hB.lt
   rw[Qs.part_all] at hB
   have hlen:((List.range j).map (Qs.has l)).length=j:=by simp
   have hrl:Qs.rising l j=((List.range j).map (Qs.has l)).mergeSort fun x y=>decide (x≤y):=rfl
   have hll:=Qs.rising_len l j
   rw[hrl] at hll
   generalize (List.range j).map (Qs.has l)=zs at*
   have hsort:=Tryz.slices_Sort_int w.heap.size 0 j zs wr (by
    intro k hk
    rw[Nat.zero_add]
    refine⟨?_,hB.frozen k⟩
    have hk':k<zs.length:=by simpa using hk
    rw[hB.cell k (v:= .int .i64 zs[k]) (by simp[hk'])]
    simp[getElem!_pos,hk']) hlt Z11
   rw[hlen] at hsort
   have HS:=Lib.hid hsort
   have HRL:=Lib.hid hrl
   clear hsort hrl
   go_wp2_with fail
   refine HS.out.mono ?_
   rintro e w2 ⟨rfl,n2,os,rfl⟩
   have ho:=ownsRow_sortedI (w:=wr) (base:=w.heap.size) (g:=w.heap.size) (cap:=j) (n:=n2) (os:=os) (ss:=zs) (ts:=zs.mergeSort fun x y=>decide (x≤y)) (by rw[hll,hlen]) (Nat.le_refl _) hB Z11 Z68 (by simp[hlen])
   have hbe:=hb.grown (grownBy_sortedI (w:=wr) (g:=w.heap.size) (n:=n2) (os:=os) (zs.mergeSort fun x y=>decide (x≤y)).toArray) hb.size (fun k e=>by cases e;exact Nat.le_refl _)
   rw[hlen] at ho
   go_wp2
   go_ret
   exact⟨_,rfl,by rw[HRL.out];exact ho,hbe⟩
theorem Z122 {p:Prop}(h:p:=by
 go_wp2_with fail
 refine(hm.out _).mono ?_
 rintro e w1 ⟨rfl,e1⟩
 subst e1
 go_wp2
 go_ret
 exact⟨rfl,Below.refl _ _⟩):p:=h
open Go.RowKit
theorem reached_any (v:Value)(l:List Int)(n:Int)(w:World)(h:Rd w 1 v l.length (l.map (Value.int .i64))):
 Calls Tryz.prog 84 #[v,.int .i64 n] w fun e w'=>e= .returned (.int .i64 (Qs.reached l n))∧Below w.heap.size w w':=by
 have hm:=Lib.hid (fun w=>maj_any n w)
 by_cases hn:n<1∨7<n
 ·have hr:Qs.maj n=0:=by unfold Qs.maj;rw[if_pos hn]
  have hp:Qs.reached l n=0:=by unfold Qs.reached;rw[if_pos hn]
  rw[hp]
  simp only[hr] at hm
  clear hr hp hn
  go_enter Tryz.func84,Tryz.ntmps84
  exact Z122
 ·obtain⟨N,rfl⟩: ∃N:Nat,n=N:=⟨n.toNat,Z11⟩
  have hN:1≤N∧N≤7:=by omega
  obtain⟨d,hd,hd0,hdN⟩: ∃d:Nat,(N:Int)-Qs.maj N=d∧(d:Int)<N∧d<N:=by
   unfold Qs.maj;rw[if_neg hn];exact⟨N-(N/2+1),Z11,Z11,Z11⟩
  have hm0:((Qs.maj (N:Int)==0)=false):=by unfold Qs.maj;rw[if_neg hn];simp;omega
  have hmb:1≤Qs.maj (N:Int)∧Qs.maj (N:Int)≤7:=by unfold Qs.maj;rw[if_neg hn];omega
  have hp:Qs.reached l N=(Qs.rising l N).getD d 0:=by unfold Qs.reached;rw[if_neg hn,hd];simp
  have HR:=Lib.hid (fun w h=>rising_any v l N w h hN)
  have hrl:=Qs.rising_len l N
  have hgd:(Qs.rising l N)[d]?=some ((Qs.rising l N).getD d 0):=by simp[List.getD,hrl,hdN]
  have HG:=Lib.hid hgd
  have HP:=Lib.hid hp
  have H0:=Lib.hid h
  clear hgd hp hrl hn
  generalize Qs.maj (N:Int)=m at*
  obtain⟨a,c,rfl⟩:=h.slice
  clear h
  go_enter Tryz.func84,Tryz.ntmps84
  go_wp2_with fail
  refine(hm.out _).mono ?_
  rintro e w1 ⟨rfl,e1⟩
  subst e1
  go_wp2_with fail
  refine(HR.out _ H0.out).mono ?_
  rintro e w2 ⟨g,rfl,ho,hb⟩
  have hc:w2.cell? ⟨g,d,none⟩=some (.int .i64 ((Qs.rising l N).getD d 0)):=by
   have:=ho.cells (g:=g) rfl d (.int .i64 ((Qs.rising l N).getD d 0)) (by rw[List.getElem?_map,HG.out];rfl)
   rw[Addr.add_lit,Nat.zero_add] at this
   exact this
  generalize (Qs.rising l N).getD d 0=x at*
  clear ho
  go_wp2
  go_ret
  exact⟨by rw[HP.out];rfl,hb⟩
theorem stable_any (v:Value)(l:List Int)(n:Int)(w:World)(h:Rd w 1 v l.length (l.map (Value.int .i64))):
 Calls Tryz.prog 85 #[v,.int .i64 n] w fun e w'=>e= .returned (.int .i64 (Qs.stable l n))∧Below w.heap.size w w':=by
 have hm:=Lib.hid (fun w=>maj_any n w)
 by_cases hn:n<1∨7<n
 ·have hr:Qs.maj n=0:=by unfold Qs.maj;rw[if_pos hn]
  have hp:Qs.stable l n=0:=by unfold Qs.stable;rw[if_pos hn]
  rw[hp]
  simp only[hr] at hm
  clear hr hp hn
  go_enter Tryz.func85,Tryz.ntmps85
  exact Z122
 ·obtain⟨N,rfl⟩: ∃N:Nat,n=N:=⟨n.toNat,Z11⟩
  have hN:1≤N∧N≤7:=by omega
  have hN0:(0:Int)<N:=by omega
  have hN1:0<N:=by omega
  have hm0:((Qs.maj (N:Int)==0)=false):=by unfold Qs.maj;rw[if_neg hn];simp;omega
  have hp:Qs.stable l N=(Qs.rising l N).getD 0 0:=by unfold Qs.stable;rw[if_neg hn];simp
  have HR:=Lib.hid (fun w h=>rising_any v l N w h hN)
  have hrl:=Qs.rising_len l N
  have hgd:(Qs.rising l N)[0]?=some ((Qs.rising l N).getD 0 0):=by simp[List.getD,hrl,hN1]
  have HG:=Lib.hid hgd
  have HP:=Lib.hid hp
  have H0:=Lib.hid h
  clear hgd hp hrl hn
  generalize Qs.maj (N:Int)=m at*
  obtain⟨a,c,rfl⟩:=h.slice
  clear h
  go_enter Tryz.func85,Tryz.ntmps85
  go_wp2_with fail
  refine(hm.out _).mono ?_
  rintro e w1 ⟨rfl,e1⟩
  subst e1
  go_wp2_with fail
  refine(HR.out _ H0.out).mono ?_
  rintro e w2 ⟨g,rfl,ho,hb⟩
  have hc:w2.cell? ⟨g,0,none⟩=some (.int .i64 ((Qs.rising l N).getD 0 0)):=by
   have:=ho.cells (g:=g) rfl 0 (.int .i64 ((Qs.rising l N).getD 0 0)) (by rw[List.getElem?_map,HG.out];rfl)
   exact Z127
  generalize (Qs.rising l N).getD 0 0=x at*
  clear ho
  go_wp2
  go_ret
  exact⟨by rw[HP.out];rfl,hb⟩
end Go.Proofs.YtdmjegelcdghlaaGreat
namespace Go.Proofs.YtdmjegelcdghlaaGreat.Qs
def cnt (l:List Int)(x:Int):Nat→Nat
 |0=>0
 |k+1=>cnt l x k+if x≤has l k then 1 else 0
end Go.Proofs.YtdmjegelcdghlaaGreat.Qs
namespace Go.Proofs.YtdmjegelcdghlaaGreat
open Go.RowKit
end Go.Proofs.YtdmjegelcdghlaaGreat
namespace Go.Proofs.YtdmjegelcdghlaaGreat.Qs
theorem cnt_countP (l:List Int)(x:Int)(N:Nat):cnt l x N=((List.range N).map (has l)).countP (fun y=>decide (x≤y)):=by
 induction N with
 |zero=>rfl
 |succ N ih=>
  rw[cnt,ih,List.range_succ,List.map_append,List.countP_append]
  simp[List.countP_cons]
theorem rising_perm (l:List Int)(N:Nat):(rising l N).Perm ((List.range N).map (has l)):=List.mergeSort_perm _ _
theorem rising_sorted (l:List Int)(N:Nat):(rising l N).Pairwise fun x y=>x≤y:=by
 have:=List.pairwise_mergeSort (le:=fun(x y:Int)=>decide (x≤y)) (fun a b c h1 h2=>by simp at*;omega) (fun a b=>by simp;omega) ((List.range N).map (has l))
 unfold rising
 simpa using this
theorem cnt_rising (l:List Int)(x:Int)(N:Nat):cnt l x N=(rising l N).countP (fun y=>decide (x≤y)):=by
 rw[cnt_countP];exact((rising_perm l N).countP_eq _).symm
end Go.Proofs.YtdmjegelcdghlaaGreat.Qs
namespace Go.Proofs.YtdmjegelcdghlaaGreat
open Go.RowKit
theorem rd_new (w:World)(sz n:Nat)(vs:List Value)(e:TypeId)(h:vs.length=n*sz):Rd (w.alloc (.cells vs.toArray e)) sz (.slice (some ⟨w.heap.size,0,none⟩) n n) n vs:=by
 refine⟨h,.inr ⟨w.heap.size,0,n,rfl,Nat.le_refl _,fun j u hj=> ?_⟩⟩
 have:=cells_new w vs e j u hj
 exact Z127
theorem Z17 {p:Prop}(h:p:=by omega):p:=h
end Go.Proofs.YtdmjegelcdghlaaGreat
namespace Go.Proofs.YtdmjegelcdghlaaGreat.Qb
abbrev Ca:=Int×Int
def bt (a b:Ca):Prop:=a.1>b.1∨a.1=b.1∧a.2>b.2
instance (a b:Ca):Decidable (bt a b):=by unfold bt;exact inferInstance
def best (l:List Ca):Nat→Option Nat
 |0=>none
 |k+1=>match best l k with
  |none=>some k
  |some b=>if bt (l.getD k (0,0)) (l.getD b (0,0)) then some k else some b
theorem best_lt (l:List Ca)(k:Nat): ∀b,best l k=some b→b<k:=by
 induction k with
 |zero=>intro b h;cases h
 |succ k ih=>
  intro b h
  unfold best at h
  cases hb:best l k with
  |none=>rw[hb] at h;cases h;omega
  |some c=>
   rw[hb] at h
   have:=ih c hb
   simp only at h
   split at h<;>(cases h;omega)
theorem best_none (l:List Ca)(k:Nat)(h:best l k=none):k=0:=by
 cases k with
 |zero=>rfl
 |succ k=>
  unfold best at h
  cases hb:best l k with
  |none=>rw[hb] at h;cases h
  |some c=>rw[hb] at h;simp only at h;split at h<;>cases h
theorem best_is (l:List Ca)(k:Nat): ∀b,best l k=some b→(∀i,i<k→ ¬bt (l.getD i (0,0)) (l.getD b (0,0)))∧ ∀i,i<b→bt (l.getD b (0,0)) (l.getD i (0,0)):=by
 induction k with
 |zero=>intro b h;cases h
 |succ k ih=>
  intro b h
  unfold best at h
  cases hb:best l k with
  |none=>
   rw[hb] at h;cases h
   have:=best_none l k hb
   subst this
   refine⟨fun i hi=> ?_,fun i hi=>Z17⟩
   rw[show i=0 from Z17];unfold bt;omega
  |some c=>
   rw[hb] at h
   obtain⟨h1,h2⟩:=ih c hb
   have hlt:=best_lt l k c hb
   simp only at h
   split at h
   ·rename_i hx
    cases h
    refine⟨fun i hi=> ?_,fun i hi=> ?_⟩
    ·by_cases hik:i=k
     ·subst hik;unfold bt;omega
     ·have:=h1 i Z17;unfold bt at*;omega
    ·have:=h1 i Z17;unfold bt at*;omega
   ·rename_i hx
    cases h
    refine⟨fun i hi=> ?_,h2⟩
    by_cases hik:i=k
    ·subst hik;exact hx
    ·exact h1 i Z17
end Go.Proofs.YtdmjegelcdghlaaGreat.Qb
namespace Go.Proofs.YtdmjegelcdghlaaGreat
theorem Z168 {p:Prop}(h:p:=by
 go_wp2
 have hA:Below wr.heap.size wr (wr.alloc (.cells #[.int .i64 x1,.int .i64 x2] 124)):=(Below.refl _ _).alloc (Nat.le_refl _) _
 have hbA:=hb.alloc hbs (.cells #[.int .i64 x1,.int .i64 x2] 124)
 have r2:=(hA.cell (p:=⟨b,o+j*2,none⟩) hlt).trans q2
 have r3:=(hA.cell (p:=⟨b,o+j*2+1,none⟩) hlt).trans q3
 have s0:=(Blk.new wr 124 [.int .i64 x1,.int .i64 x2]).cell 0 rfl
 have s1:=(Blk.new wr 124 [.int .i64 x1,.int .i64 x2]).cell 1 rfl
 clear q2 q3 hA
 clear q0 q1
 generalize wr.alloc (.cells #[.int .i64 x1,.int .i64 x2] 124)=wa at*
 go_quiet (fail)
 go_wp2
 go_roundw
 case rel=>exact⟨k+1,Z11,Z84,by rw[HS.out],below_drewN hbA _⟩
 case measure=>simp[intOf];omega):p:=h
open Go.RowKit
def caCells (l:List Qb.Ca):List Value:=l.flatMap fun p=> [.int .i64 p.1,.int .i64 p.2]
theorem caCells_at (l:List Qb.Ca)(k:Nat)(h:k<l.length):(caCells l)[k*2]?=some (.int .i64 (l.getD k (0,0)).1)∧(caCells l)[k*2+1]?=some (.int .i64 (l.getD k (0,0)).2):=by
 induction l generalizing k with
 |nil=>simp at h
 |cons p l ih=>
  have e:caCells (p::l)= .int .i64 p.1:: .int .i64 p.2::caCells l:=by simp[caCells]
  rw[e]
  match k with
  |0=>simp
  |k+1=>
   have:=ih k (by simpa using h)
   have e2:(k+1)*2=k*2+1+1:=by omega
   rw[e2]
   simpa using this
def bV (o:Option Nat):Value:=match o with
 |none=> .int .i64 (-1)
 |some b=> .int .i64 b
theorem best_any (v:Value)(l:List Qb.Ca)(w:World)(h:Rd w 2 v l.length (caCells l))(hm:l.length≤4611686018427387904):
 Calls Tryz.prog 90 #[v] w fun e w'=>e= .returned (bV (Qb.best l l.length))∧Below w.heap.size w w':=by
 obtain⟨a,c,rfl⟩:=h.slice
 have HH:=Lib.hid h
 clear h
 go_enter Tryz.func90,Tryz.ntmps90
 go_wp2
 go_loopw [3,8] (fun b i wr=> ∃k:Nat,k≤l.length∧i= .int .i64 k∧b=bV (Qb.best l k)∧Below w.heap.size w wr) (fun _ i _=>l.length-(intOf i).toNat)
 case atStart=>exact⟨0,Z11,rfl,rfl,Below.refl _ _⟩
 case round=>
  obtain⟨k,hk,rfl,rfl,hb⟩:=hrel
  by_cases hkn:k<l.length
  case neg=>
   have hk':k=l.length:=by omega
   subst hk'
   go_wp2
   go_ret
   exact⟨rfl,hb⟩
  case pos=>
  obtain⟨b,o,cap,e1,hcap,hc⟩:=(HH.out.below hb).pos Z11
  cases e1
  have p1:=caCells_at l k hkn
  have q0:=hc _ _ p1.1
  have q1:=hc _ _ p1.2
  rw[←Nat.add_assoc] at q1
  have hlt:=World.block_lt_of_cell? wr _ q0
  have hbs:=hb.size
  cases ho:Qb.best l k with
  |none=>
   have hs:Qb.best l (k+1)=some k:=by rw[Qb.best,ho]
   have HS:=Lib.hid hs
   clear hc p1 hs ho
   generalize l.getD k (0,0)=x at*
   obtain⟨x1,x2⟩:=x
   simp only[bV]
   go_wp2
   have hbA:=hb.alloc hbs (.cells #[.int .i64 x1,.int .i64 x2] 124)
   clear q0 q1
   generalize wr.alloc (.cells #[.int .i64 x1,.int .i64 x2] 124)=wa at*
   go_quiet (fail)
   go_wp2
   go_roundw
   case rel=>exact⟨k+1,Z11,Z84,by rw[HS.out],below_drewN hbA _⟩
   case measure=>simp[intOf];omega
  |some j=>
   have hjk:=Qb.best_lt l k j ho
   have hs:Qb.best l (k+1)=if Qb.bt (l.getD k (0,0)) (l.getD j (0,0)) then some k else some j:=by rw[Qb.best,ho]
   have p2:=caCells_at l j Z11
   have q2:=hc _ _ p2.1
   have q3:=hc _ _ p2.2
   rw[←Nat.add_assoc] at q3
   have hjl:(j:Int)<(l.length:Int):=by omega
   have hj0:decide ((j:Int)<0)=false:=by simp
   clear hc p1 p2 ho
   generalize l.getD k (0,0)=x at*
   generalize l.getD j (0,0)=y at*
   obtain⟨x1,x2⟩:=x
   obtain⟨y1,y2⟩:=y
   simp only[bV]
   by_cases g1:y1<x1
   ·have HS:=Lib.hid (hs.trans (if_pos (Or.inl g1)))
    clear hs
    exact Z168
   ·have g1':decide (y1<x1)=false:=by simp;omega
    by_cases g2:x1=y1
    ·have g2':(x1==y1)=true:=by simp[g2]
     by_cases g3:y2<x2
     ·have HS:=Lib.hid (hs.trans (if_pos (Or.inr ⟨g2,g3⟩)))
      clear hs g1 g2
      exact Z168
     ·have g3':decide (y2<x2)=false:=by simp;omega
      have HS:=Lib.hid (hs.trans (if_neg (by unfold Qb.bt;simp only;omega)))
      clear hs g1 g2 g3
      exact Z168
    ·have g2':(x1==y1)=false:=by simp;omega
     have HS:=Lib.hid (hs.trans (if_neg (by unfold Qb.bt;simp only;omega)))
     clear hs g1 g2
     exact Z168
end Go.Proofs.YtdmjegelcdghlaaGreat
