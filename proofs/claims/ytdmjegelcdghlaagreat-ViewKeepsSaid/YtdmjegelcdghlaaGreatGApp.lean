/-
  append(v, x...) onto a row of the call's own, x whatever slice is read: guarded or not.
-/
import Derived.Maps.AppendAt
import Derived.Deep.Upon
import Derived.OwnWalk
import Derived.Test.YtdmjegelcdghlaaGreatGGen
import Derived.Test.YtdmjegelcdghlaaGreatProg
import Derived.Lib.Strings
import Derived.Lib.IndexBytes
import Derived.Maps.Own
import Derived.Maps.OwnOps
import Derived.Maps.OwnSet
import Derived.Maps.Views
import Derived.Sort.KeysCollected
import Derived.Sort.OwnSorted
import Derived.Maps.RangeWalk
import Derived.Test.YtdmjegelcdghlaaGreatGShelf
set_option maxRecDepth 100000
set_option maxHeartbeats 64000000
set_option linter.unusedVariables false
set_option linter.unusedSimpArgs false
namespace Go.Proofs.YtdmjegelcdghlaaGreat
open Go.RowKit
section
variable {P:Program}
theorem app_run (w:World)(t ty e:TypeId)(base:Nat)(i:TypeInfo)(z:Value)(size bytes:Nat)(ht:P.underlying t=some (.slice e))(hi:P.info? e=some i)(hz:i.zero=some z)
 (hsize:i.size=size) (hby:i.bytes=bytes) (hzs:z.cells.size=size) (hsz:0<size) (v:Value) (n:Nat) (xs:List Value) (hown:w.ownsRow base e size v n xs)
 (x:Value) (m:Nat) (news:List Value) (hx:Rd w size x m news) (h1: ∀u∈news,u.oneCell'=true) (h63:n+m≤maxLen) (hbytes:(n+m)*bytes≤140737488355328) (hbase:base≤w.heap.size):
 ∃v' w',(Builtin.append_ #[t,t] ty #[v,x]).run P w= .ok v' w'∧w'.ownsRow base e size v' (n+m) (xs++news)∧w.grownBy w' v.ownBlock∧(v'.ownBlock=v.ownBlock∨v'.ownBlock=some w.heap.size):=by
 rcases hx.2 with⟨⟨a,cap,rfl⟩,rfl⟩|⟨b,off,cap,rfl,hc,hcells⟩
 ·have hnil:news= []:=List.eq_nil_of_length_eq_zero (by rw[hx.1];simp)
  subst hnil
  have hsrc:Src P i.size t (.slice a 0 cap) 0 [] w:=by
   cases a with
   |none=>exact Src.ofNil w ht cap
   |some a=>exact Src.ofSlice w ht a 0 cap [] Z93 Z93 Z93
  have key: ∀(ao:Option Addr) (l c:Nat),v= .slice ao l c→l≤c→ ∃v' w',(Builtin.append_ #[t,t] ty #[v,.slice a 0 cap]).run P w= .ok v' w'∧w'.ownsRow base e size v' (n+0) (xs++ [])∧w.grownBy w' v.ownBlock∧(v'.ownBlock=v.ownBlock∨v'.ownBlock=some w.heap.size):=by
   intro ao l c hv hle
   subst hv
   exact⟨_,_,run_append_nothing w t t ty e i ht hi ao l c hle _ hsrc,by simpa using hown,World.grownBy.refl _ _,.inl rfl⟩
  rcases hown.2 with⟨hv,_⟩|⟨g,c,cur,hv,_,_,hle,_⟩
  ·exact key _ _ _ hv (Nat.le_refl _)
  ·exact key _ _ _ hv hle
 ·obtain⟨v',w',h2,h3,h4,-,h5⟩:=run_append_own_at (P:=P) w base t ty e i z size bytes ht hi hz hsize hby hzs hsz v n xs hown ⟨b,off,none⟩ m cap news hx.1 (fun j u hj=>by rw[Addr.add_lit];exact hcells j u hj) h1 h63 hbytes hbase
  exact⟨v',w',h2,h3,h4,h5⟩
theorem wpList_app {ops:Array Oper}{rest:List Oper}{o:Oper}{a:Act}{w:World}{Q:Exit→Act→World→Prop}(hw:Region.wanted o (yielded ops a.tmps)=true)(s x:Operand)(t:TypeId)
 (ho:o.op= .call {callee:= .builtin .append,args:= #[s,x],argTypes:= #[t,t] })
 (e:TypeId) (base:Nat) (i:TypeInfo) (z:Value) (size bytes:Nat) (ht:P.underlying t=some (.slice e)) (hi:P.info? e=some i) (hz:i.zero=some z)
 (hsize:i.size=size) (hby:i.bytes=bytes) (hzs:z.cells.size=size) (hsz:0<size) (v:Value) (n:Nat) (xs:List Value) (hs:a.eval s=v) (hown:w.ownsRow base e size v n xs)
 (xv:Value) (m:Nat) (news:List Value) (hxe:a.eval x=xv) (hx:Rd w size xv m news) (h1: ∀u∈news,u.oneCell'=true) (h63:n+m≤maxLen) (hbytes:(n+m)*bytes≤140737488355328) (hbase:base≤w.heap.size)
 (h: ∀v' w',w'.ownsRow base e size v' (n+m) (xs++news)→w.grownBy w' v.ownBlock→(v'.ownBlock=v.ownBlock∨v'.ownBlock=some w.heap.size)→wpList P ops Q rest (a.put o.dst v') w'):wpList P ops Q (o::rest) a w:=
 wpList_step fun K hK=>by
  rw[if_pos hw]
  obtain⟨v',w',hr,h2,h3,h4⟩:=app_run (P:=P) w t o.type e base i z size bytes ht hi hz hsize hby hzs hsz v n xs hown xv m news hx h1 h63 hbytes hbase
  unfold Oper.wp execOp
  simp only[ho,resolve,invoke,builtin,Sem.run_bind,Sem.run_pure,Result.andThen_ok,List.map_toArray,List.map_cons,List.map_nil,hs,hxe,hr]
  exact hK _ _ (h v' w' h2 h3 h4)
end
theorem own_fresh (w:World)(e:TypeId)(size:Nat):(w.alloc (.cells #[] e)).ownsRow w.heap.size e size (.slice (some ⟨w.heap.size,0,none⟩) 0 0) 0 []:=
 ⟨Z93,.inr ⟨w.heap.size,0,#[],rfl,Nat.le_refl _,heap_alloc_new w _,Nat.le_refl _,by simp[maxLen],Z93,Z93⟩⟩
open Go.RowKit
theorem st_ext (a b:ByteArray)(h:a.data.toList=b.data.toList):a=b:=by
 cases a;cases b;congr 1;exact Array.toList_inj.1 h
theorem st_mk (s:ByteArray):s=⟨s.data.toList.toArray⟩:=by apply st_ext;simp
theorem st_size (l:List UInt8):(⟨l.toArray⟩:ByteArray).size=l.length:=by simp[ByteArray.size]
theorem st_add (x y z:List UInt8)(h:x.length+y.length≤9223372036854775807)(hz:z=x++y)(w:World):(Op.stringOp .add ⟨x.toArray⟩ ⟨y.toArray⟩).run Tryz.prog w= .ok (.string ⟨z.toArray⟩) w:=by
 subst hz
 rw[run_string_add_sum w _ _ (by simp[ByteArray.size];omega),ByteArray.mk_append_mk]
theorem ix_str (s:ByteArray)(k:Nat)(h:k<s.size)(c:UInt8)(hc:s[k]=c)(w:World):(Instr.index 9 (.string s) (.int .i64 (k:Int))).run Tryz.prog w= .ok (.int .u8 (c.toNat:Int)) w:=by
 subst hc
 rw[run_index_string w _ s .i64 k Tryz.underlying9]
 simp[h]
theorem u8_row:(Tryz.prog.info? 5).map (fun i=>(i.zero,i.size,i.bytes))=some (some (.int .u8 0),1,1):=by kernel_rfl
theorem str_row:(Tryz.prog.info? 9).map (fun i=>(i.zero,i.size,i.bytes))=some (some (.string ⟨#[]⟩),1,16):=by kernel_rfl
theorem Z123 {p:Prop}(h:p:=by
 have:=List.perm_middle (l₁:=out.take at_) (l₂:=out.drop at_) (a:=x)
 rw[List.take_append_drop] at this
 exact this):p:=h
theorem Z95 {p:Prop}(h:p:=by simp):p:=h
theorem Z14 {p:Prop}(h:p:=by omega):p:=h
end Go.Proofs.YtdmjegelcdghlaaGreat
namespace Go.Proofs.YtdmjegelcdghlaaGreat.Sc
abbrev Bs:=List UInt8
def okc (c:UInt8):Bool:= !(decide (c.toNat<33)||c.toNat==34||c.toNat==92||decide (126<c.toNat))
def word (s:Bs):Bool:=decide (1≤s.length)&&decide (s.length≤64)&&s.all okc
theorem word_len (s:Bs)(h:word s=true):1≤s.length∧s.length≤64:=by
 simp only[word,Bool.and_eq_true,decide_eq_true_eq] at h;exact h.1
def nub:List Bs→List Bs
 | []=> []
 |x::r=>if x∈r then nub r else x::nub r
theorem mem_nub (x:Bs)(l:List Bs):x∈nub l↔x∈l:=by
 induction l with
 |nil=>simp[nub]
 |cons y r ih=>
  unfold nub
  split
  ·rename_i h
   rw[ih,List.mem_cons]
   exact⟨.inr,fun e=>e.elim (fun e=>e▸h) id⟩
  ·rw[List.mem_cons,List.mem_cons,ih]
theorem nub_nodup (l:List Bs):(nub l).Nodup:=by
 induction l with
 |nil=>exact List.nodup_nil
 |cons y r ih=>
  unfold nub
  split
  ·exact ih
  ·rename_i h
   exact List.nodup_cons.2 ⟨fun e=>h ((mem_nub y r).1 e),ih⟩
theorem nub_len (l:List Bs):(nub l).length≤l.length:=by
 induction l with
 |nil=>exact Nat.le_refl _
 |cons y r ih=>unfold nub;split<;>simp only[List.length_cons]<;>omega
def leW (x y:Bs):Bool:=decide (x≤y)
theorem leW_trans (a b c:Bs)(h1:leW a b=true)(h2:leW b c=true):leW a c=true:=by
 simp only[leW,decide_eq_true_eq] at*;exact List.le_trans h1 h2
theorem leW_total (a b:Bs):(leW a b||leW b a)=true:=by
 simp only[leW,Bool.or_eq_true,decide_eq_true_eq];exact List.le_total a b
def SS (l:List Bs):Prop:=l.Pairwise (fun a b=>a≤b)∧l.Nodup
theorem ss_ext {a b:List Bs}(ha:SS a)(hb:SS b)(h: ∀x,x∈a↔x∈b):a=b:=
 List.Perm.eq_of_pairwise (le:=fun x y=>x≤y) (fun _ _ _ _ h1 h2=>List.le_antisymm h1 h2) ha.1 hb.1 ((List.perm_ext_iff_of_nodup ha.2 hb.2).2 h)
theorem sort_ss (l:List Bs)(h:l.Nodup):SS (l.mergeSort leW):=by
 refine⟨?_,(List.mergeSort_perm l leW).nodup_iff.2 h⟩
 have:=List.pairwise_mergeSort (le:=leW) leW_trans leW_total l
 simpa[leW] using this
theorem mem_sort (x:Bs)(l:List Bs):x∈l.mergeSort leW↔x∈l:=(List.mergeSort_perm l leW).mem_iff
def set (ls:List Bs):List Bs:=(nub (ls.filter word)).mergeSort leW
theorem set_ss (ls:List Bs):SS (set ls):=sort_ss _ (nub_nodup _)
theorem mem_set (x:Bs)(ls:List Bs):x∈set ls↔x∈ls∧word x=true:=by
 unfold set;rw[mem_sort,mem_nub,List.mem_filter]
theorem set_uniq {ls r:List Bs}(h:SS r)(hm: ∀x,x∈r↔x∈ls∧word x=true):r=set ls:=
 ss_ext h (set_ss ls) fun x=>(hm x).trans (mem_set x ls).symm
theorem set_len (ls:List Bs):(set ls).length≤ls.length:=by
 unfold set
 rw[List.length_mergeSort]
 exact Nat.le_trans (nub_len _) (List.length_filter_le _ _)
theorem set_nil:set []= []:=by simp[set,nub]
theorem set_set (ls:List Bs):set (set ls)=set ls:=
 (set_uniq (set_ss ls) (fun x=>by rw[mem_set x ls];exact⟨fun h=>⟨h,h.2⟩,fun h=>h.1⟩)).symm
theorem set_word {ls:List Bs}{x:Bs}(h:x∈set ls):word x=true:=((mem_set x ls).1 h).2
theorem ss_insert (out:List Bs)(x:Bs)(at_:Nat)(hs:SS out)(hx:x∉out)(hle:at_≤out.length)(h1: ∀j y,j<at_→out[j]?=some y→y<x)(h2: ∀y,out[at_]?=some y→ ¬y<x):
 SS (out.take at_++x::out.drop at_):=by
 have hp:(out.take at_++x::out.drop at_).Perm (x::out):=by
  exact Z123
 refine⟨?_,hp.nodup_iff.2 (List.nodup_cons.2 ⟨hx,hs.2⟩)⟩
 have hs':=hs.1
 rw[←List.take_append_drop at_ out,List.pairwise_append] at hs'
 obtain⟨ha,hb,hab⟩:=hs'
 rw[List.pairwise_append]
 have hxd: ∀y∈out.drop at_,x≤y:=by
  intro y hy
  obtain⟨k,hk,rfl⟩:=List.getElem_of_mem hy
  rw[List.length_drop] at hk
  have hat:at_<out.length:=by omega
  have h3:x≤out[at_]:=List.not_lt.1 (h2 _ (List.getElem?_eq_getElem hat))
  rw[List.getElem_drop]
  by_cases hk0:k=0
  ·subst hk0;exact h3
  ·exact List.le_trans h3 (List.pairwise_iff_getElem.1 hs.1 _ _ _ _ Z14)
 refine⟨ha,List.pairwise_cons.2 ⟨hxd,hb⟩,fun y hy z hz=> ?_⟩
 rcases List.mem_cons.1 hz with rfl|hz
 ·obtain⟨j,hj,rfl⟩:=List.getElem_of_mem hy
  rw[List.length_take] at hj
  rw[List.getElem_take]
  exact List.le_of_lt (h1 j _ Z14 (List.getElem?_eq_getElem Z14))
 ·exact hab y hy z hz
theorem mem_insert (out:List Bs)(x y:Bs)(at_:Nat):y∈out.take at_++x::out.drop at_↔y=x∨y∈out:=by
 have hp:(out.take at_++x::out.drop at_).Perm (x::out):=by
  exact Z123
 rw[hp.mem_iff,List.mem_cons]
theorem set_snoc_no (ls:List Bs)(x:Bs)(h:word x=false∨x∈set ls):set (ls++ [x])=set ls:=by
 refine(set_uniq (set_ss ls) fun y=> ?_).symm
 rw[mem_set,List.mem_append,List.mem_singleton]
 constructor
 ·intro⟨h1,h2⟩;exact⟨.inl h1,h2⟩
 ·rintro⟨h1|rfl,h2⟩
  ·exact⟨h1,h2⟩
  ·rcases h with h|h
   ·rw[h] at h2;cases h2
   ·exact(mem_set _ _).1 h
theorem set_snoc_yes (ls:List Bs)(x:Bs)(at_:Nat)(hw:word x=true)(hx:x∉set ls)(hle:at_≤(set ls).length)(h1: ∀j y,j<at_→(set ls)[j]?=some y→y<x)(h2: ∀y,(set ls)[at_]?=some y→ ¬y<x):
 set (ls++ [x])=(set ls).take at_++x::(set ls).drop at_:=by
 refine(set_uniq (ss_insert _ x at_ (set_ss ls) hx hle h1 h2) fun y=> ?_).symm
 rw[mem_insert,mem_set,List.mem_append,List.mem_singleton]
 constructor
 ·rintro(rfl|⟨h3,h4⟩)
  ·exact⟨.inr rfl,hw⟩
  ·exact⟨.inl h3,h4⟩
 ·rintro⟨h3|rfl,h4⟩
  ·exact .inr ⟨h3,h4⟩
  ·exact .inl rfl
def join:List Bs→Bs
 | []=> []
 | [x]=>x
 |x::y::r=>x++32::join (y::r)
theorem join_snoc (l:List Bs)(x:Bs):join (l++ [x])=if l= [] then x else join l++32::x:=by
 induction l with
 |nil=>rfl
 |cons y r ih=>
  cases r with
  |nil=>simp[join]
  |cons z r=>simp only[List.cons_append,join] at*;rw[ih];simp
theorem join_len (l:List Bs)(n:Nat)(h: ∀x∈l,x.length≤n):(join l).length≤l.length*(n+1):=by
 induction l with
 |nil=>simp[join]
 |cons y r ih=>
  cases r with
  |nil=>simp[join];have:=h y Z95;omega
  |cons z r=>
   have:=ih (fun x hx=>h x (by simp at hx⊢;exact .inr hx))
   have hy:=h y Z95
   simp only[join,List.length_append,List.length_cons] at*
   rw[Nat.add_mul]
   omega
end Go.Proofs.YtdmjegelcdghlaaGreat.Sc
namespace Go.Proofs.YtdmjegelcdghlaaGreat
theorem Z81 {p:Prop}(h:p:=by go_num):p:=h
theorem Z64 {p:Prop}(h:p:=by
 go_wp2
 go_ret
 exact⟨by rw[HW.out];rfl,rfl⟩):p:=h
open Go.RowKit
theorem word_no (l:List UInt8)(k:Nat)(c:UInt8)(h:l[k]?=some c)(hc:Sc.okc c=false):Sc.word l=false:=by
 have:l.all Sc.okc=false:=by
  rw[List.all_eq_false]
  exact⟨c,List.mem_of_getElem? h,by simp[hc]⟩
 simp[Sc.word,this]
theorem word_all (l:List UInt8)(h: ∀(k:Nat) c,l[k]?=some c→Sc.okc c=true):Sc.word l=(decide (1≤l.length)&&decide (l.length≤64)):=by
 have:l.all Sc.okc=true:=by
  rw[List.all_eq_true]
  intro c hc
  obtain⟨k,hk⟩:=List.getElem?_of_mem hc
  exact h k c hk
 simp[Sc.word,this]
theorem isWord_any (s:ByteArray)(w:World)(hs:s.size≤9223372036854775807):
 Calls Tryz.prog 159 #[.string s] w fun e w'=>e= .returned (.bool (Sc.word s.data.toList))∧w=w':=by
 go_enter Tryz.func159,Tryz.ntmps159
 go_wp2
 go_loop [3] (fun i=> ∃k:Nat,k≤s.size∧i= .int .i64 k∧ ∀j c,j<k→s.data.toList[j]?=some c→Sc.okc c=true) (fun i=>s.size-(intOf i).toNat)
 case atStart=>exact⟨0,Z11,rfl,fun j c hj=>Z11⟩
 case round=>
  obtain⟨k,hk,rfl,hall⟩:=hrel
  have HA:=Lib.hid hall
  clear hall
  by_cases hlt:k<s.size
  ·have hg:s.data.toList[k]?=some s[k]:=by
    rw[List.getElem?_eq_getElem (by simpa using hlt)];rfl
   obtain⟨c,hc⟩: ∃c,s[k]=c:=⟨_,rfl⟩
   have hi:=ix_str s k hlt c hc
   rw[hc] at hg
   have HG:=Lib.hid hg
   clear hc hg
   cases ho:Sc.okc c with
   |true=>
    have h1:decide ((c.toNat:Int)<33)=false:=by simp[Sc.okc] at ho;simp;omega
    have h2:((c.toNat:Int)==34)=false:=by simp[Sc.okc] at ho;simp;omega
    have h3:((c.toNat:Int)==92)=false:=by simp[Sc.okc] at ho;simp;omega
    have h4:decide (126<(c.toNat:Int))=false:=by simp[Sc.okc] at ho;simp;omega
    have HO:=Lib.hid ho
    clear ho
    go_wp2
    go_round
    case rel=>
     refine⟨k+1,Z11,Z81,fun j d hj hd=> ?_⟩
     by_cases hjk:j=k
     ·subst hjk
      rw[HG.out] at hd
      cases hd
      exact HO.out
     ·exact HA.out j d Z11 hd
    case measure=>simp[intOf];omega
   |false=>
    have HW:=Lib.hid (word_no _ k c HG.out ho)
    by_cases h1:(c.toNat:Int)<33
    ·clear ho
     exact Z64
    ·have h1':decide ((c.toNat:Int)<33)=false:=by simp;omega
     by_cases h2:(c.toNat:Int)=34
     ·have h2':((c.toNat:Int)==34)=true:=by simp[h2]
      clear ho h1 h2
      exact Z64
     ·have h2':((c.toNat:Int)==34)=false:=by simp;omega
      by_cases h3:(c.toNat:Int)=92
      ·have h3':((c.toNat:Int)==92)=true:=by simp[h3]
       clear ho h1 h2 h3
       exact Z64
      ·have h3':((c.toNat:Int)==92)=false:=by simp;omega
       have h4:126<(c.toNat:Int):=by simp[Sc.okc] at ho;omega
       clear ho h1 h2 h3
       exact Z64
  ·have hk':k=s.size:=by omega
   subst hk'
   have HW:=Lib.hid (word_all s.data.toList (fun k c hk=>HA.out k c (by have:=(List.getElem?_eq_some_iff.1 hk).1;simpa using this) hk))
   have hsz:s.data.toList.length=s.size:=by simp
   rw[hsz] at HW
   clear hsz
   by_cases h1:1≤s.size
   ·have h1':(1:Int)≤(s.size:Int):=by omega
    go_wp2
    go_ret
    exact⟨by rw[HW.out];simp[h1];omega,rfl⟩
   ·have h1':decide ((1:Int)≤(s.size:Int))=false:=by simp;omega
    have h1'':decide (1≤s.size)=false:=decide_eq_false Z11
    go_wp2
    go_ret
    exact⟨by rw[HW.out,h1''];rfl,rfl⟩
theorem Z106 {p:Prop}(h:p:=by
 unfold plainElem at hv
 rw[Tryz.underlying4] at hv
 split at hv<;>simp_all):p:=h
open Go.RowKit Go.Maps
def sv (x:List UInt8):Value:= .string ⟨x.toArray⟩
theorem sv_one (l:List (List UInt8)): ∀u∈l.map sv,u.oneCell'=true:=by
 intro u hu
 obtain⟨x,_,rfl⟩:=List.mem_map.1 hu
 rfl
def RdS (W:World)(v:Value)(l:List (List UInt8)):Prop:=Rd W 1 v l.length (l.map sv)∧ ∀x∈l,x.length≤9223372036854775807
theorem RdS.below {W W':World}{v:Value}{l:List (List UInt8)}(h:RdS W v l)(hb:Below W.heap.size W W'):RdS W' v l:=⟨h.1.below hb,h.2⟩
theorem RdS.drewN {W:World}{v:Value}{l:List (List UInt8)}(h:RdS W v l)(n:Nat):RdS (W.drewN n) v l:=⟨h.1.drewN n,h.2⟩
theorem RdS.nil (W:World):RdS W (.slice none 0 0) []:=⟨Rd.nil _ _,Z93⟩
def RdL (W:World)(v:Value)(L:List (List (List UInt8))):Prop:= ∃vs:List Value,vs.length=L.length∧Rd W 1 v L.length vs∧ ∀(i:Nat) x l,vs[i]?=some x→L[i]?=some l→RdS W x l
theorem RdL.below {W W':World}{v:Value}{L:List (List (List UInt8))}(h:RdL W v L)(hb:Below W.heap.size W W'):RdL W' v L:=by
 obtain⟨vs,h1,h2,h3⟩:=h
 exact⟨vs,h1,h2.below hb,fun i x l hx hl=>(h3 i x l hx hl).below hb⟩
theorem skey:Keyed Tryz.prog 9:=string_keyed Tryz.underlying9
def SM (W:World)(b n:Nat)(S:List (List UInt8)):Prop:=
 ∃D:DataW Unit,W.ownsMap Tryz.prog 9 (plainElem Tryz.prog 4) b n D∧ ∀x,(has D (.string x)=true↔x∈S)∧(x∈S→ ∀zd,D.atKey (.string x) zd= .lit (.bool true))
theorem SM.made (w:World):SM (w.alloc (.map #[] 0)) w.heap.size 0 []:=
 ⟨.map [],World.ownsMap_made _ _ _ _,fun x=>⟨by simp[has],fun h=>by simp at h⟩⟩
theorem SM.mono {W:World}{b n m:Nat}{S:List (List UInt8)}(h:SM W b n S)(hn:n≤m):SM W b m S:=by
 obtain⟨D,h1,h2⟩:=h
 exact⟨D,h1.mono hn,h2⟩
theorem SM.lt {W:World}{b n:Nat}{S:List (List UInt8)}(h:SM W b n S):b<W.heap.size:=by
 obtain⟨D,h1,_⟩:=h
 exact h1.lt
theorem SM.kept {W W':World}{b n:Nat}{S:List (List UInt8)}{row:Option Nat}(h:SM W b n S)(hg:W.grownBy W' row)(hne:some b≠row):SM W' b n S:=by
 obtain⟨D,h1,h2⟩:=h
 exact⟨D,h1.kept hg hne,h2⟩
theorem SM.below {W W':World}{b n:Nat}{S:List (List UInt8)}(h:SM W b n S)(hb:Below W.heap.size W W'):SM W' b n S:=by
 obtain⟨D,⟨es,clock,h0,F,hs,hD⟩,h2⟩:=h
 have hlt:b<W.heap.size:=(Array.getElem?_eq_some_iff.1 h0).1
 exact⟨D,⟨es,clock,(hb.block b hlt).trans h0,F,hs,hD⟩,h2⟩
theorem SM.drewN {W:World}{b n:Nat}{S:List (List UInt8)}(h:SM W b n S)(k:Nat):SM (W.drewN k) b n S:=h
theorem SM.same {W:World}{b n:Nat}{S S':List (List UInt8)}(h:SM W b n S)(he: ∀x,x∈S↔x∈S'):SM W b n S':=by
 obtain⟨D,h1,h2⟩:=h
 exact⟨D,h1,fun x=>⟨(h2 x).1.trans (he x),fun hx=>(h2 x).2 ((he x).2 hx)⟩⟩
theorem strkey (x:List UInt8):WideAt.IsKeyLit (.string x):=by simp[WideAt.IsKeyLit]
theorem SM.put {W:World}{b n:Nat}{S:List (List UInt8)}{D:DataW Unit}{x:List UInt8}(hD: ∀y,(has D (.string y)=true↔y∈S)∧(y∈S→ ∀zd,D.atKey (.string y) zd= .lit (.bool true)))(hm:IsMap D)
 (h:W.ownsMap Tryz.prog 9 (plainElem Tryz.prog 4) b n (D.put (.string x) (.lit (.bool true)))):SM W b n (S++ [x]):=by
 refine⟨_,h,fun y=> ?_⟩
 by_cases hy:y=x
 ·subst hy
  rw[has_put_same hm (strkey y)]
  exact⟨Z93,fun _ zd=>atKey_put_same hm (strkey y) _ _⟩
 ·have hne:(Lit.string y)≠ .string x:=fun e=>hy (by cases e;rfl)
  rw[has_put_other hne]
  refine⟨(hD y).1.trans (by simp[hy]),fun h zd=> ?_⟩
  rw[atKey_put_other hne]
  exact(hD y).2 (by simpa[hy] using h) zd
theorem bool_zero (w:World):(zeroValue 4).run Tryz.prog w= .ok (.bool false) w:=by kernel_rfl
theorem SM.look {W:World}{b n:Nat}{S:List (List UInt8)}(h:SM W b n S)(x:List UInt8)(hx:x.length≤9223372036854775807):
 (Instr.lookup 160 (.map (some b)) (sv x) false).run Tryz.prog W= .ok (.bool (decide (x∈S))) W:=by
 obtain⟨D,h1,h2⟩:=h
 obtain⟨v,ps,hrun,hv⟩:=h1.lookup skey Tryz.underlying160 (bool_zero W) (plainElem_bool Tryz.underlying4 false) (key:=sv x) (WideMaps.keyOf_string_mk Tryz.underlying9 (by rw[st_size];exact hx))
 by_cases hm:x∈S
 ·have:=(h2 x).2 hm (.lit (.bool false))
  have e:(⟨x.toArray⟩:ByteArray).data.toList=x:=rfl
  rw[e,this] at hv
  have hb:v= .bool true:=by
   exact Z106
  rw[hrun,hb,decide_eq_true hm]
 ·have hno:has D (.string x)=false:=by
   cases hh:has D (.string x) with
   |false=>rfl
   |true=>exact absurd ((h2 x).1.1 hh) hm
  have:=atKey_of_not_has hno (.lit (.bool false))
  have e:(⟨x.toArray⟩:ByteArray).data.toList=x:=rfl
  rw[e,this] at hv
  have hb:v= .bool false:=by
   exact Z106
  rw[hrun,hb,decide_eq_false hm]
theorem Z67 {p:Prop}(h:p:=by unfold maxLen;omega):p:=h
open Go.RowKit Go.Maps
theorem isWord_sv (x:List UInt8)(w:World)(hx:x.length≤9223372036854775807):
 Calls Tryz.prog 159 #[.string ⟨x.toArray⟩] w fun e w'=>e= .returned (.bool (Sc.word x))∧w=w':=isWord_any ⟨x.toArray⟩ w (by rw[st_size];exact hx)
theorem take_flat (L:List (List (List UInt8)))(i:Nat)(l:List (List UInt8))(h:L[i]?=some l):(L.take (i+1)).flatten=(L.take i).flatten++l:=by
 obtain⟨hi,rfl⟩:=List.getElem?_eq_some_iff.1 h
 rw[List.take_succ_eq_append_getElem hi]
 simp only[List.flatten_append,List.flatten_cons,List.flatten_nil,List.append_nil]
theorem flat_len (L:List (List (List UInt8)))(i:Nat):(L.take i).flatten.length≤L.flatten.length:=by
 have:=congrArg (fun l=>(List.flatten l).length) (List.take_append_drop i L)
 simp only[List.flatten_append,List.length_append] at this
 omega
theorem take_snocL {α:Type}(l:List α)(j:Nat)(x:α)(h:l[j]?=some x):l.take (j+1)=l.take j++ [x]:=by
 obtain⟨hi,rfl⟩:=List.getElem?_eq_some_iff.1 h
 rw[List.take_succ_eq_append_getElem hi]
theorem gathered_any (v:Value)(L:List (List (List UInt8)))(w:World)(h:RdL w v L)(hN:L.flatten.length≤1048576)(hL:L.length≤1048576):
 Calls Tryz.prog 134 #[v] w fun e w'=>e= .returned (.map (some w.heap.size))∧SM w' w.heap.size L.flatten.length (L.flatten.filter Sc.word)∧Below w.heap.size w w':=by
 obtain⟨vs,hvl,hrd,hel⟩:=h
 obtain⟨a,c,rfl⟩:=hrd.slice
 have HR:=Lib.hid hrd
 have HE:=Lib.hid hel
 have HVL:=Lib.hid hvl
 have hmm:= @run_makeMap Tryz.prog
 clear hrd hel hvl
 go_enter Tryz.func134,Tryz.ntmps134
 go_wp2_with fail
 have hS0:SM (w.alloc (.map #[] 0)) w.heap.size (L.take 0).flatten.length ((L.take 0).flatten.filter Sc.word):=by simpa using SM.made w
 have hb0:Below w.heap.size w (w.alloc (.map #[] 0)):=(Below.refl _ _).alloc (Nat.le_refl _) _
 go_loopw [11] (fun i wr=> ∃k:Nat,k≤L.length∧i= .int .i64 k∧SM wr w.heap.size (L.take k).flatten.length ((L.take k).flatten.filter Sc.word)∧Below w.heap.size w wr) (fun i _=>L.length-(intOf i).toNat)
 case atStart=>exact⟨0,Z11,rfl,hS0,hb0⟩
 case round=>
  clear hS0 hb0
  obtain⟨k,hk,rfl,hS,hb⟩:=hrel
  by_cases hkn:k<L.length
  case neg=>
   have hk':k=L.length:=by omega
   subst hk'
   rw[List.take_of_length_le (Nat.le_refl _)] at hS
   go_wp2_with fail
   go_ret
   exact⟨rfl,hS,hb⟩
  case pos=>
  obtain⟨b,o,cap,e1,hcap,hc⟩:=(HR.out.below hb).pos Z11
  cases e1
  obtain⟨l,hl⟩: ∃l,L[k]?=some l:=⟨_,List.getElem?_eq_getElem hkn⟩
  obtain⟨x,hx⟩: ∃x,vs[k]?=some x:=⟨_,List.getElem?_eq_getElem (by rw[HVL.out];exact hkn)⟩
  have hrs:=HE.out k x l hx hl
  have q0:=hc k x hx
  have htf:=take_flat L k l hl
  have hfl:=flat_len L (k+1)
  rw[htf] at hfl
  rw[List.length_append] at hfl
  obtain⟨a1,c1,rfl⟩:=hrs.1.slice
  have HS:=Lib.hid hrs
  have HTF:=Lib.hid htf
  have HX:=Lib.hid hx
  clear hc hrs htf hl hx
  go_wp2_with fail
  clear q0
  obtain⟨wo,rfl⟩: ∃wo:World,wo=wr:=⟨_,rfl⟩
  generalize hpre:(L.take k).flatten=pre at*
  have HPRE:=Lib.hid hpre
  clear hpre
  have hS0:SM wo w.heap.size (pre++l.take 0).length ((pre++l.take 0).filter Sc.word):=by simpa using hS
  clear hS
  go_loopw [17] (fun j wq=> ∃m:Nat,m≤l.length∧j= .int .i64 m∧SM wq w.heap.size (pre++l.take m).length ((pre++l.take m).filter Sc.word)∧Below w.heap.size w wq) (fun j _=>l.length-(intOf j).toNat)
  case atStart=>exact⟨0,Z11,rfl,hS0,hb⟩
  case round=>
   clear hS0
   obtain⟨m,hm,rfl,hS,hq⟩:=hrel
   by_cases hmn:m<l.length
   case neg=>
    have hm':m=l.length:=by omega
    subst hm'
    rw[List.take_of_length_le (Nat.le_refl _)] at hS
    go_wp2_with fail
    go_roundw
    case rel=>exact⟨k+1,Z11,Z81,by rw[HTF.out];exact hS,hq⟩
    case measure=>simp[intOf];omega
   case pos=>
   obtain⟨b1,o1,cap1,e1,hcap1,hc1⟩:=(HS.out.1.below hq).pos Z11
   cases e1
   obtain⟨s,hs⟩: ∃s,l[m]?=some s:=⟨_,List.getElem?_eq_getElem hmn⟩
   have hsl:s.length≤9223372036854775807:=HS.out.2 s (List.mem_of_getElem? hs)
   have q1:=hc1 m (sv s) (by rw[List.getElem?_map,hs];rfl)
   have hts:=take_snocL l m s hs
   have hml:(l.take m).length≤l.length:=by rw[List.length_take];omega
   have HTS:=Lib.hid hts
   have HW:=Lib.hid (isWord_sv s · hsl)
   clear hc1 hts hs
   simp only[sv] at q1
   cases hw:Sc.word s with
   |false=>
    rw[hw] at HW
    have hfs:(pre++l.take (m+1)).filter Sc.word=(pre++l.take m).filter Sc.word:=by
     rw[HTS.out,←List.append_assoc,List.filter_append,List.filter_cons,hw];simp
    have HF:=Lib.hid hfs
    clear hfs hw
    go_wp2_with fail
    refine(HW.out _).mono ?_
    rintro e w2 ⟨rfl,e2⟩
    subst e2
    go_wp2_with fail
    go_roundw
    case rel=>exact⟨m+1,Z11,Z81,by rw[HF.out];exact hS.mono (by rw[HTS.out];simp),hq⟩
    case measure=>simp[intOf];omega
   |true=>
    rw[hw] at HW
    have hfs:(pre++l.take (m+1)).filter Sc.word=(pre++l.take m).filter Sc.word++ [s]:=by
     rw[HTS.out,←List.append_assoc,List.filter_append,List.filter_cons,hw];simp
    have hln:(pre++l.take (m+1)).length=(pre++l.take m).length+1:=by rw[HTS.out];simp;omega
    have hlm:(pre++l.take m).length<9223372036854775807:=by rw[List.length_append];omega
    have HF:=Lib.hid hfs
    have HLN:=Lib.hid hln
    clear hfs hw hln
    obtain⟨D,hown,hD⟩:=hS
    have HD:=Lib.hid hD
    have him:=hown.isMap
    clear hD
    go_wp2_with fail
    refine(HW.out _).mono ?_
    rintro e w2 ⟨rfl,e2⟩
    subst e2
    go_wp2_with (at_mapUpdate;go_loud (refine wpList_mapUpdate_own _ rfl _ _ _ 160 rfl 9 4 skey Tryz.underlying160 _ w.heap.size _ D rfl hown Z67 _ _ (.string s) rfl rfl (WideMaps.keyOf_string_mk Tryz.underlying9 (by rw[st_size];exact hsl)) (.lit (.bool true)) [] (plainElem_bool Tryz.underlying4 true) ?_))
    intro w1 hown1 hgrow1
    have hS1:=SM.put HD.out him hown1
    have hbs:=hq.size
    have hq1:=hq.grown hgrow1 hq.size (fun j hj=>by cases hj;exact Nat.le_refl _)
    clear hown1 hgrow1 hq
    go_wp2_with fail
    go_roundw
    case rel=>exact⟨m+1,Z11,Z81,by rw[HF.out,HLN.out];exact hS1.mono (by rw[List.length_append,List.length_take];omega),hq1⟩
    case measure=>simp[intOf];omega
theorem Z37 {p:Prop}(h:p:=by decide):p:=h
open Go.RowKit Go.Maps Go.Sort
theorem invK (key:Value)(kl:Lit)(hk:_root_.Go.keyOf Tryz.prog 9 key=some kl): ∃x,key=encStr x:=by
 obtain⟨x,hx,_⟩:=Maps.keyOf_str Tryz.underlying9 hk
 exact⟨x,hx⟩
structure BX where
 b:Bool
def bx (c:BX):Value:= .bool c.b
theorem invB (v:Value)(y:DataW Unit×List MemPlace)(hv:plainElem Tryz.prog 4 v=some y): ∃c,v=bx c:=by
 suffices h: ∃c,v=Value.bool c by
  obtain⟨c,h⟩:=h
  exact⟨⟨c⟩,h⟩
 exact Z106
theorem collected_set {D:DataW Unit}{left:Lit→Bool}{ss ls:List (List UInt8)}(hC:Collected D left ss)(hl: ∀kl,left kl=false)(hD: ∀x,has D (.string x)=true↔x∈ls.filter Sc.word):
 (ss.mergeSort fun x y=>decide (x≤y))=Sc.set ls:=by
 have e:(ss.mergeSort fun x y=>decide (x≤y))=ss.mergeSort Sc.leW:=rfl
 rw[e]
 refine Sc.set_uniq (Sc.sort_ss ss hC.1) fun x=> ?_
 rw[Sc.mem_sort,hC.2 x,hl,hD x,List.mem_filter]
 simp
def OwnS (W:World)(B:Nat)(v:Value)(l:List (List UInt8)):Prop:=W.ownsRow B 9 1 v l.length (l.map sv)
theorem OwnS.rd {W:World}{B:Nat}{v:Value}{l:List (List UInt8)}(h:OwnS W B v l)(hl: ∀x∈l,x.length≤9223372036854775807):RdS W v l:=⟨Rd.of_own h,hl⟩
theorem set_short {ls:List (List UInt8)}{x:List UInt8}(h:x∈Sc.set ls):x.length≤9223372036854775807:=by
 have:=Sc.word_len x (Sc.set_word h);omega
theorem both_any (v:Value)(L:List (List (List UInt8)))(w:World)(h:RdL w v L)(hN:L.flatten.length≤1048576)(hL:L.length≤1048576):
 Calls Tryz.prog 122 #[v] w fun e w'=> ∃v',e= .returned v'∧OwnS w' w.heap.size v' (Sc.set L.flatten)∧Below w.heap.size w w':=by
 obtain⟨i0,hi,hz0,hz1,hz2⟩:=info_parts str_row
 have HG:=Lib.hid (gathered_any v L w h hN hL)
 clear h
 go_enter Tryz.func122,Tryz.ntmps122
 go_wp2_with fail
 refine HG.out.mono ?_
 rintro e w1 ⟨rfl,hS,hb1⟩
 have hlt:=hS.lt
 obtain⟨D,hown,hD⟩:=hS
 have hsz:=hown.size_le
 have HD:=Lib.hid hD
 clear hD HG
 obtain⟨N,hNe⟩: ∃N,L.flatten.length=N:=⟨_,rfl⟩
 rw[hNe] at hown hsz hN
 clear hNe
 go_wp2_with (first|(at_range;refine wpList_range_own _ rfl _ 160 rfl 9 4 skey Tryz.underlying160 _ w.heap.size _ D rfl hown ?_;intro w0 hrg0 hg0 hs0)|go_in)
 go_frame
 have hb0:Below w.heap.size w w0:=hb1.grown hg0 hb1.size (fun j hj=>by cases hj)
 have hs1:w1.heap.size≤w0.heap.size:=by omega
 clear hs0
 go_loopw [3] (fun v wr=> ∃(left:Lit→Bool) (cnt:Nat) (ss:List (List UInt8)),wr.ranges Tryz.prog 9 (plainElem Tryz.prog 4) w.heap.size w1.heap.size N D left cnt∧ss.length+cnt≤Maps.size D∧
  wr.ownsRow w1.heap.size 9 1 v ss.length (ss.map encStr)∧Collected D left ss∧Below w.heap.size w wr∧w1.heap.size≤wr.heap.size)
  (fun _ wr=>wr.rangeLeft w.heap.size w1.heap.size)
 case atStart=>exact⟨_,_,[],hrg0,Z93,World.ownsRow_nil _ _ _ _,Collected.start D,hb0,hs1⟩
 case round=>
  clear hrg0 hg0 hb0 hs1
  obtain⟨left,cnt,ss,hrg,hcs,hrow,hC,hnx,hs1⟩:=hrel
  go_wp2_with (first|(at_next;refine wpList_next_ranges _ rfl _ rfl 9 skey (plainElem Tryz.prog 4) encStr bx invK invB w.heap.size w1.heap.size N _ _ _ rfl hrg ?_ ?_)|go_in)
  ·intro hc0 hl0
   have hset:=Lib.hid (collected_set hC hl0 (fun x=>(HD.out x).1))
   have hlen:(ss.mergeSort fun x y=>decide (x≤y)).length=ss.length:=List.length_mergeSort ..
   have HLEN:=Lib.hid hlen
   clear hlen
   rcases hrow.2 with⟨rfl,h0⟩|⟨g,cap,cur,rfl,hbase,hb,h1,h2,h3,h4⟩
   ·have h00:ss= []:=List.eq_nil_of_length_eq_zero h0
    subst h00
    clear h0 hrow
    go_wp2_with fail
    refine(Tryz.slices_Sort_string_none _ _ _).mono ?_
    rintro e w2 ⟨rfl,rfl⟩
    go_wp2_with fail
    go_ret
    refine⟨_,rfl,?_,hnx⟩
    rw[←hset.out]
    simpa[OwnS] using World.ownsRow_nil _ _ _ _
   ·have hH:Holds encStr wr g 0 ss.toArray:=holds_of_block hb (by simpa using h4)
    have hgl:g<wr.heap.size:=(Array.getElem?_eq_some_iff.1 hb).1
    have hc:=Lib.hid (Tryz.slices_Sort_string g 0 cap ss wr hH hgl Z11)
    have HB:=Lib.hid hb
    have H3:=Lib.hid h3
    clear hH hb h3 h4 hrow
    go_wp2_with fail
    refine hc.out.mono ?_
    rintro e w2 ⟨rfl,n2,os,rfl⟩
    have ho:=ownsRow_sorted (n:=n2) (os:=os) (ts:=ss.mergeSort fun x y=>decide (x≤y)) (by rw[HLEN.out]) hbase HB.out h1 h2 H3.out
    have hbel:=hnx.grown (grownBy_sorted (w:=wr) (g:=g) (n:=n2) (os:=os) (ss.mergeSort fun x y=>decide (x≤y)).toArray) hnx.size (fun j hj=>by cases hj;have:=hb1.size;omega)
    generalize grow _ os=wz at*
    go_wp2_with fail
    go_ret
    refine⟨_,rfl,?_,hbel⟩
    have ho2:=own_mono ho hb1.size
    rw[←HLEN.out,hset.out] at ho2
    show OwnS wz w.heap.size (.slice (some ⟨g,0,none⟩) ss.length cap) _
    rw[←HLEN.out,hset.out]
    exact ho2
  ·intro x c kl yd yp w2 cnt2 hkey hlk hv hat hrg2 hlt2 hg2 hs2 hen
   obtain⟨x',ex,rfl,_⟩:=Maps.keyOf_str Tryz.underlying9 hkey
   obtain rfl:x=x':=encStr_inj ex
   have hrow2:=hrow.kept hg2 (Or.inr (row_ne_iter hrow hrg).symm)
   have hs2':w1.heap.size≤w2.heap.size:=by omega
   clear hs2
   go_wp2_with (first|(at_builtin;refine wpList_append_own _ rfl _ _ 22 rfl w1.heap.size 9 i0 (.string ⟨#[]⟩) 1 16 Tryz.underlying22 hi hz0 hz1 hz2 rfl Z37 _ _ _ rfl (hrow2.alloc _) ⟨w2.heap.size,0,none⟩ 1 1 [encStr x] rfl rfl (cell_one_new _ _ _) (by simp[Value.oneCell',encStr]) (by unfold maxLen at*;omega) Z11 (by simp;omega) ?_;intro v' w3 hown' hg3 hnil3;go_frame)|go_in)
   have hrg3:=(hrg2.alloc _).kept hg3 (row_ne_low hrow2 hlt) (row_ne_iter hrow2 hrg2)
   have hb2:=hnx.grown hg2 hnx.size (fun j hj=>by cases hj;exact hb1.size)
   have hb3:=(hb2.alloc hb2.size (.cells #[encStr x] 9)).grown hg3 (by have:=hb2.size;simp;omega) (fun j hj=>by have:=(hrow2.lt j hj).1;have:=hb1.size;omega)
   have hs3:w1.heap.size≤w3.heap.size:=by have:=hg3.size;simp at this;omega
   go_roundw
   case rel=>exact⟨_,cnt2,ss++ [x],hrg3,by simp;omega,by simpa using hown',hC.step hlk hat,hb3,hs3⟩
   case measure=>rw[hrg3.left_eq,hrg.left_eq];exact hlt2
open Go.RowKit
theorem rdl_one (w:World)(v:Value)(l:List (List UInt8))(h:RdS w v l)(t:TypeId):RdL (w.alloc (.cells #[v] t)) (.slice (some ⟨w.heap.size,0,none⟩) 1 1) [l]:=by
 refine⟨[v],rfl,⟨rfl,.inr ⟨w.heap.size,0,1,rfl,Nat.le_refl _,fun j u hj=> ?_⟩⟩,fun i x l' hx hl=> ?_⟩
 ·have:=cells_new w [v] t j u hj
  exact Z127
 ·match i,hx,hl with
  |0,hx,hl=>
   cases hx;cases hl
   exact h.below ((Below.refl _ _).alloc (Nat.le_refl _) _)
theorem join_lib (l:List (List UInt8)):Lib.join l [32]=Sc.join l:=by
 induction l with
 |nil=>rfl
 |cons x r ih=>
  cases r with
  |nil=>simp[Lib.join_one,Sc.join]
  |cons y r=>
   rw[Lib.join_cons] at ih⊢
   rw[Sc.join,←ih]
   simp[Lib.joinTail]
theorem set_any (v:Value)(l:List (List UInt8))(w:World)(h:RdS w v l)(hN:l.length≤1048576):
 Calls Tryz.prog 110 #[v] w fun e w'=> ∃v',e= .returned v'∧OwnS w' w.heap.size v' (Sc.set l)∧Below w.heap.size w w':=by
 obtain⟨a,c,rfl⟩:=h.1.slice
 have hR:=rdl_one w _ l h 22
 have hb:=both_any _ [l] _ hR (by simpa using hN) Z93
 have hf: [l].flatten=l:=by simp
 rw[hf] at hb
 have HB:=Lib.hid hb
 have hbl:Below w.heap.size w (w.alloc (.cells #[.slice a l.length c] 22)):=(Below.refl _ _).alloc (Nat.le_refl _) _
 clear hR hb h hf
 go_enter Tryz.func110,Tryz.ntmps110
 go_wp2_with fail
 refine HB.out.mono ?_
 rintro e w1 ⟨v1,rfl,ho,hb1⟩
 go_wp2_with fail
 go_ret
 exact⟨v1,rfl,own_mono ho hbl.size,hbl.trans (hb1.mono hbl.size)⟩
theorem join_any (v:Value)(l:List (List UInt8))(w:World)(h:RdS w v l)(hN:l.length≤1048576)(hs: ∀x∈l,x.length≤64):
 Calls Tryz.prog 123 #[v,.string ⟨#[32]⟩] w fun e w'=>e= .returned (.string ⟨(Sc.join l).toArray⟩)∧Below w.heap.size w w':=by
 rcases h.1.2 with⟨⟨a,cap,rfl⟩,h0⟩|⟨b,o,cap,rfl,hle,hc⟩
 ·have h00:l= []:=List.eq_nil_of_length_eq_zero h0
  subst h00
  refine(Tryz.strings_Join_none a cap ⟨#[32]⟩ w).mono ?_
  rintro e w' ⟨rfl,rfl⟩
  exact⟨rfl,Below.refl _ _⟩
 ·by_cases h0:l.length=0
  ·have h00:l= []:=List.eq_nil_of_length_eq_zero h0
   subst h00
   refine(Tryz.strings_Join_none (some ⟨b,o,none⟩) cap ⟨#[32]⟩ w).mono ?_
   rintro e w' ⟨rfl,rfl⟩
   exact⟨rfl,Below.refl _ _⟩
  have hmap:(l.map fun x=>(⟨x.toArray⟩:ByteArray)).map (·.data.toList)=l:=by simp[List.map_map,Function.comp_def]
  have hl:(l.map fun x=>(⟨x.toArray⟩:ByteArray)).length=l.length:=by simp
  have hlt:b<w.heap.size:=World.block_lt_of_cell? w ⟨b,o+0,none⟩ (hc 0 (sv (l[0]'Z11)) (by rw[List.getElem?_map,List.getElem?_eq_getElem Z11];rfl))
  have hj:=Sc.join_len l 64 hs
  have:=Tryz.strings_Join b o cap (l.map fun x=>(⟨x.toArray⟩:ByteArray)) ⟨#[32]⟩ w (fun j x hx=>hc j (.string x) (by
   rw[List.getElem?_map] at hx⊢
   cases hg:l[j]? with
   |none=>rw[hg] at hx;cases hx
   |some y=>rw[hg] at hx;cases hx;rfl)) hlt Z11 Z11 (by rw[hmap];show(Lib.join l [32]).length≤_;rw[join_lib];omega)
  rw[hmap,hl] at this
  have e:(⟨#[32]⟩:ByteArray).data.toList= [32]:=rfl
  rw[e,join_lib] at this
  exact this
theorem sprint_any (v:Value)(l:List (List UInt8))(w:World)(h:RdS w v l)(hN:l.length≤1048576):
 Calls Tryz.prog 111 #[v] w fun e w'=>e= .returned (.string ⟨(Sc.join (Sc.set l)).toArray⟩)∧Below w.heap.size w w':=by
 obtain⟨a,c,rfl⟩:=h.1.slice
 have hR:=rdl_one w _ l h 22
 have hb:=both_any _ [l] _ hR (by simpa using hN) Z93
 have hf: [l].flatten=l:=by simp
 rw[hf] at hb
 have hsl:=Sc.set_len l
 have hsw: ∀x∈Sc.set l,x.length≤64:=fun x hx=>(Sc.word_len x (Sc.set_word hx)).2
 have HJ:=Lib.hid (fun v w h=>join_any v (Sc.set l) w h Z11 hsw)
 have HSH:=Lib.hid (fun x (hx:x∈Sc.set l)=>set_short hx)
 generalize Sc.set l=S at*
 have HB:=Lib.hid hb
 have hbl:Below w.heap.size w (w.alloc (.cells #[.slice a l.length c] 22)):=(Below.refl _ _).alloc (Nat.le_refl _) _
 clear hR hb h hf hsw
 go_enter Tryz.func111,Tryz.ntmps111
 go_wp2_with fail
 refine HB.out.mono ?_
 rintro e w1 ⟨v1,rfl,ho,hb1⟩
 have HO:=Lib.hid (ho.rd HSH.out)
 clear ho
 go_wp2_with fail
 refine(HJ.out _ _ HO.out).mono ?_
 rintro e w2 ⟨rfl,hb2⟩
 go_wp2_with fail
 go_ret
 have h12:=hbl.trans (hb1.mono hbl.size)
 exact⟨rfl,h12.trans (hb2.mono h12.size)⟩
theorem Z202 {p:Prop}(h:p:=by
 go_wp2
 go_round
 case rel=>exact⟨k+1,Z11,Z81,HST.out HO.out⟩
 case measure=>simp[intOf];omega):p:=h
theorem Z142 {p:Prop}(h:p:=by
 go_wp2
 go_ret
 exact⟨by rw[HW.out HO.out];rfl,rfl⟩):p:=h
open Go.RowKit
theorem rword_any (s:ByteArray)(w:World):
 Calls Tryz.prog 130 #[.string s] w fun e w'=>e= .returned (.bool (Sc.word s.data.toList))∧w=w':=by
 have hsz:s.data.toList.length=s.size:=by simp
 by_cases h1:s.size<1
 ·have HW:Hid (Sc.word s.data.toList=false):=by
   have:decide (1≤s.data.toList.length)=false:=by rw[hsz];exact decide_eq_false Z11
   exact Lib.hid (by simp only[Sc.word,this,Bool.false_and])
  have h1':(s.size:Int)<1:=by omega
  clear hsz
  go_enter Tryz.func130,Tryz.ntmps130
  exact Z64
 have h1':decide ((s.size:Int)<1)=false:=by simp;omega
 by_cases h2:64<s.size
 ·have HW:Hid (Sc.word s.data.toList=false):=by
   have:decide (s.data.toList.length≤64)=false:=by rw[hsz];exact decide_eq_false Z11
   exact Lib.hid (by simp only[Sc.word,this,Bool.and_false,Bool.false_and])
  have h2':(64:Int)<(s.size:Int):=by omega
  clear hsz h1
  go_enter Tryz.func130,Tryz.ntmps130
  exact Z64
 have h2':decide ((64:Int)<(s.size:Int))=false:=by simp;omega
 have h64:s.size≤64:=by omega
 have h11:1≤s.size:=by omega
 have HSZ:=Lib.hid hsz
 clear hsz h1 h2
 go_enter Tryz.func130,Tryz.ntmps130
 go_wp2
 go_loop [3] (fun i=> ∃k:Nat,k≤s.size∧i= .int .i64 k∧ ∀j c,j<k→s.data.toList[j]?=some c→Sc.okc c=true) (fun i=>s.size-(intOf i).toNat)
 case atStart=>exact⟨0,Z11,rfl,fun j c hj=>Z11⟩
 case round=>
  obtain⟨k,hk,rfl,hall⟩:=hrel
  have HA:=Lib.hid hall
  clear hall
  by_cases hlt:k<s.size
  ·have hg:s.data.toList[k]?=some s[k]:=by
    rw[List.getElem?_eq_getElem (by simpa using hlt)];rfl
   obtain⟨c,hc⟩: ∃c,s[k]=c:=⟨_,rfl⟩
   have hi:=ix_str s k hlt c hc
   rw[hc] at hg
   have HG:=Lib.hid hg
   clear hc hg
   have hstep:Sc.okc c=true→ ∀j d,j<k+1→s.data.toList[j]?=some d→Sc.okc d=true:=by
    intro ho j d hj hd
    by_cases hjk:j=k
    ·subst hjk
     rw[HG.out] at hd
     cases hd
     exact ho
    ·exact HA.out j d Z11 hd
   have HST:=Lib.hid hstep
   clear hstep
   have HW:=Lib.hid (word_no _ k c HG.out)
   by_cases g1:(c.toNat:Int)=33
   ·have ho:Sc.okc c=true:=by simp[Sc.okc];omega
    have HO:=Lib.hid ho
    have g1':((c.toNat:Int) !=33)=false:=by simp[g1]
    clear ho g1
    exact Z202
   have g1':((c.toNat:Int) !=33)=true:=by simp;omega
   by_cases g2:(c.toNat:Int)<35
   ·by_cases g3:(c.toNat:Int)<93
    ·have ho:Sc.okc c=false:=by simp[Sc.okc];omega
     have HO:=Lib.hid ho
     clear ho g1
     exact Z142
    ·omega
   have g2':decide ((c.toNat:Int)<35)=false:=by simp;omega
   by_cases g4:91<(c.toNat:Int)
   ·by_cases g3:(c.toNat:Int)<93
    ·have ho:Sc.okc c=false:=by simp[Sc.okc];omega
     have HO:=Lib.hid ho
     clear ho g1 g2
     exact Z142
    ·have g3':decide ((c.toNat:Int)<93)=false:=by simp;omega
     by_cases g5:126<(c.toNat:Int)
     ·have ho:Sc.okc c=false:=by simp[Sc.okc];omega
      have HO:=Lib.hid ho
      clear ho g1 g2 g3
      exact Z142
     ·have g5':decide (126<(c.toNat:Int))=false:=by simp;omega
      have ho:Sc.okc c=true:=by simp[Sc.okc];omega
      have HO:=Lib.hid ho
      clear ho g1 g2 g3 g5
      exact Z202
   ·have g4':decide (91<(c.toNat:Int))=false:=by simp;omega
    have ho:Sc.okc c=true:=by simp[Sc.okc];omega
    have HO:=Lib.hid ho
    clear ho g1 g2 g4
    exact Z202
  ·have hk':k=s.size:=by omega
   subst hk'
   have HW:=Lib.hid (word_all s.data.toList (fun k c hk=>HA.out k c (by have:=(List.getElem?_eq_some_iff.1 hk).1;simpa using this) hk))
   rw[HSZ.out,show decide (1≤s.size)=true from by simpa using h11,show decide (s.size≤64)=true from by simpa using h64] at HW
   exact Z64
end Go.Proofs.YtdmjegelcdghlaaGreat
