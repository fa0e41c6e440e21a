/-
  Chapter 3: the digest of parts (the program's). Condition: all bytes together are fewer than 2^59.
-/
import Derived.Test.YtdmjegelcdghlaaGreatGHf
import Derived.Test.YtdmjegelcdghlaaGreatGApp
set_option maxRecDepth 100000
set_option maxHeartbeats 64000000
set_option linter.unusedVariables false
set_option linter.unusedSimpArgs false
namespace Go.Proofs.YtdmjegelcdghlaaGreat
theorem Z118 {p:Prop}(h:p:=by
 intro u hu
 have:(stCells [] (List.replicate 64 0)).all (·.oneCell')=true:=by kernel_rfl
 exact List.all_eq_true.1 this u hu):p:=h
open Go.RowKit Sh
theorem begun_any (w:World):Calls Tryz.prog 188 #[] w fun e w'=>e= .returned (shV [] (List.replicate 64 0))∧Below w.heap.size w w':=by
 have hz:((((((((Tryz.zeroCells219.setIfInBounds 0 (.int .u32 1779033703)).setIfInBounds 1 (.int .u32 3144134277)).setIfInBounds 2 (.int .u32 1013904242)).setIfInBounds 3 (.int .u32 2773480762)).setIfInBounds 4 (.int .u32 1359893119)).setIfInBounds 5 (.int .u32 2600822924)).setIfInBounds 6 (.int .u32 528734635)).setIfInBounds 7 (.int .u32 1541459225))=(stCells [] (List.replicate 64 0)).toArray:=by kernel_rfl
 have hB:Blk (w.alloc (.cells Tryz.zeroCells219 219)) w.heap.size 219 Tryz.zeroCells219.toList:=heap_alloc_new w _
 have hlen:Tryz.zeroCells219.toList.length=(stCells [] (List.replicate 64 0)).length:=by kernel_rfl
 have hsz:(Tryz.prog.info? 219).map (·.size)=some (stCells [] (List.replicate 64 0)).length:=by kernel_rfl
 have hsz2:(Tryz.prog.info? 219).map (·.size)=some (stCells [] (List.replicate 64 0)).toArray.size:=by kernel_rfl
 have hone: ∀u∈stCells [] (List.replicate 64 0),u.oneCell'=true:=by
  exact Z118
 have hb0:Below w.heap.size w (w.alloc (.cells Tryz.zeroCells219 219)):=(Below.refl _ _).alloc (Nat.le_refl _) _
 have HH:=Lib.hid (And.intro hz (And.intro hlen (And.intro hsz (And.intro hsz2 hone))))
 have HBB:=Lib.hid hB
 clear hz hlen hsz hsz2 hone hB
 unfold shV
 generalize stCells [] (List.replicate 64 0)=cs at HH⊢
 go_enter Tryz.func188,Tryz.ntmps188
 go_wp2_with (refine wpList_store_blk rfl 219 (.tmp 0) (.tmp 2) rfl w.heap.size cs rfl (congrArg Value.agg HH.out.1) 219 _ HBB.out HH.out.2.2.1 HH.out.2.1 HH.out.2.2.2.2 ?_)
 intro wC hxC hgC
 have hbC:Below w.heap.size w wC:=hb0.grown hgC Z93 (fun k e=>by cases e;omega)
 clear hgC hb0
 go_wp2_with fail
 try simp only[Exit.inBlock,Exit.then]
 refine bodyPost_ret (results_cell_row rfl _ _ w.heap.size 219 cs.toArray (0,0) _ rfl hxC Tryz.underlying219 rfl HH.out.2.2.2.1) rfl ?_
 exact⟨rfl,hbC⟩
theorem write_nil (sb:Nat)(m:By)(a:Option Addr)(c:Nat)(w:World)(hs:SS w sb m):
 Calls Tryz.prog 189 #[.pointer (some ⟨sb,0,none⟩),.slice a 0 c] w fun e w'=>e= .returned (.tuple #[])∧SS w' sb m∧w.grownBy w' (some sb):=by
 have hb0:Below w.heap.size w (w.alloc (.cells (ks.map uw).toArray 234)):=(Below.refl _ _).alloc (Nat.le_refl _) _
 have hs0:=hs.below hb0
 have hg0:w.grownBy (w.alloc (.cells (ks.map uw).toArray 234)) (some sb):=⟨hb0.os,hb0.tape,hb0.output,hb0.size,fun k hk _=>hb0.block k hk⟩
 clear hb0 hs
 go_enter Tryz.func189,Tryz.ntmps189
 go_wp2_with fail
 refine(constants_any _).mono ?_
 rintro e w1 ⟨rfl,rfl⟩
 generalize w.alloc (.cells (ks.map uw).toArray 234)=w1 at hs0 hg0⊢
 go_wp2_with fail
 go_loopw [1] (fun v wr=>v= .slice a 0 c∧wr=w1) (fun v _=>slLen v)
 case atStart=>exact⟨rfl,rfl⟩
 case round=>
  obtain⟨rfl,rfl⟩:=hrel
  go_wp2_with fail
  try simp only[Exit.inBlock,Exit.then]
  go_end0
  exact⟨rfl,hs0,hg0⟩
theorem write_val (sb:Nat)(m b:By)(v:Value)(w:World)(hs:SS w sb m)(hb:Rd w 1 v b.length (Lib.byteCells b))(hne: ∀bb o n c,v= .slice (some ⟨bb,o,none⟩) n c→b≠ []→bb≠sb)(hlen:m.length+b.length≤1152921504606846976):
 Calls Tryz.prog 189 #[.pointer (some ⟨sb,0,none⟩),v] w fun e w'=>e= .returned (.tuple #[])∧SS w' sb (m++b)∧w.grownBy w' (some sb):=by
 by_cases h0:b= []
 ·subst h0
  obtain⟨a,c,rfl⟩:=hb.slice
  rw[List.append_nil]
  exact write_nil sb m a c w hs
 ·obtain⟨bb,off,cap,rfl,hc,_⟩:=hb.pos (by have:=List.length_pos_iff.2 h0;omega)
  exact write_any sb bb off cap m b w hs hb hc (hne _ _ _ _ rfl h0) hlen
def RdP (W:World)(v:Value)(ps:List By):Prop:= ∃vs:List Value,Rd W 1 v ps.length vs∧ ∀(i:Nat) (x:Value) (b:By),vs[i]?=some x→ps[i]?=some b→Rd W 1 x b.length (Lib.byteCells b)
theorem RdP.below {W W':World}{v:Value}{ps:List By}(h:RdP W v ps)(hb:Below W.heap.size W W'):RdP W' v ps:=by
 obtain⟨vs,h1,h2⟩:=h
 exact⟨vs,h1.below hb,fun i x b hx hp=>(h2 i x b hx hp).below hb⟩
theorem rd_lt {W:World}{n:Nat}{v:Value}{b:By}(h:Rd W 1 v n (Lib.byteCells b)): ∀bb o k c,v= .slice (some ⟨bb,o,none⟩) k c→b≠ []→bb<W.heap.size:=by
 intro bb o k c hv hne
 rcases h.2 with⟨_,h0⟩|⟨b',o',c',e,_,hc⟩
 ·have:=h.1;rw[bc_length,h0] at this;exact absurd (List.eq_nil_of_length_eq_zero Z11) hne
 ·rw[hv] at e;cases e
  have hp:=List.length_pos_iff.2 hne
  exact World.block_lt_of_cell? W _ (hc 0 (.int .u8 ((b.getD 0 0).toNat:Int)) (by simp[Lib.byteCells,List.getD,hp]))
theorem flat_take (ps:List By)(k:Nat)(h:k<ps.length):(ps.take (k+1)).flatten=(ps.take k).flatten++ps[k]:=by
 rw[List.take_succ_eq_append_getElem h,List.flatten_append];simp
theorem flat_lenH (ps:List By)(k:Nat)(h:k<ps.length):(ps.take k).flatten.length+ps[k].length≤ps.flatten.length:=by
 have e:ps.flatten=(ps.take (k+1)).flatten++(ps.drop (k+1)).flatten:=by rw[←List.flatten_append,List.take_append_drop]
 rw[e,List.length_append,flat_take ps k h,List.length_append];omega
theorem all_any (v:Value)(ps:List By)(w:World)(h:RdP w v ps)(hn:ps.length≤1000000)(hlen:ps.flatten.length≤576460752303423488):
 Calls Tryz.prog 164 #[v] w fun e w'=>e= .returned (.agg (Lib.byteCells (sha ps.flatten)).toArray)∧Below w.heap.size w w':=by
 have hsl: ∃a c,v= .slice a ps.length c:=by obtain⟨vs,h1,_⟩:=h;exact h1.slice
 obtain⟨a,c,rfl⟩:=hsl
 have HR:=Lib.hid h
 have hr0:Blk (w.alloc (.cells #[.int .u8 0,.int .u8 0,.int .u8 0,.int .u8 0,.int .u8 0,.int .u8 0,.int .u8 0,.int .u8 0,.int .u8 0,.int .u8 0,.int .u8 0,.int .u8 0,.int .u8 0,.int .u8 0,.int .u8 0,.int .u8 0,.int .u8 0,.int .u8 0,.int .u8 0,.int .u8 0,.int .u8 0,.int .u8 0,.int .u8 0,.int .u8 0,.int .u8 0,.int .u8 0,.int .u8 0,.int .u8 0,.int .u8 0,.int .u8 0,.int .u8 0,.int .u8 0] 172)) w.heap.size 172 (List.replicate 32 (.int .u8 0)):=Blk.new w _ _
 have hb0:Below w.heap.size w (w.alloc (.cells #[.int .u8 0,.int .u8 0,.int .u8 0,.int .u8 0,.int .u8 0,.int .u8 0,.int .u8 0,.int .u8 0,.int .u8 0,.int .u8 0,.int .u8 0,.int .u8 0,.int .u8 0,.int .u8 0,.int .u8 0,.int .u8 0,.int .u8 0,.int .u8 0,.int .u8 0,.int .u8 0,.int .u8 0,.int .u8 0,.int .u8 0,.int .u8 0,.int .u8 0,.int .u8 0,.int .u8 0,.int .u8 0,.int .u8 0,.int .u8 0,.int .u8 0,.int .u8 0] 172)):=(Below.refl _ _).alloc (Nat.le_refl _) _
 have hst:(Tryz.prog.info? 219).map (·.size)=some (stCells [] (List.replicate 64 0)).length:=by kernel_rfl
 have hlz:Tryz.zeroCells219.toList.length=(stCells [] (List.replicate 64 0)).length:=by kernel_rfl
 have hone: ∀u∈stCells [] (List.replicate 64 0),u.oneCell'=true:=by
  exact Z118
 have HH:=Lib.hid (And.intro hst (And.intro hlz hone))
 clear h hst hlz hone
 go_enter Tryz.func164,Tryz.ntmps164
 go_wp2_with fail
 refine(begun_any _).mono ?_
 rintro e w1 ⟨rfl,hc1⟩
 have hb1:=hb0.trans (hc1.mono hb0.size)
 have hr1:=hr0.below hc1 hr0.lt
 have hz1:Blk (w1.alloc (.cells Tryz.zeroCells219 219)) w1.heap.size 219 Tryz.zeroCells219.toList:=heap_alloc_new w1 _
 clear hc1 hb0 hr0
 unfold shV
 go_wp2_with (refine wpList_store_blk rfl 219 (.tmp 3) (.tmp 6) rfl w1.heap.size (stCells [] (List.replicate 64 0)) rfl rfl 219 _ hz1 HH.out.1 HH.out.2.1 HH.out.2.2 ?_)
 intro w2 hx2 hg2
 have hr2:=(hr1.alloc (.cells Tryz.zeroCells219 219)).grown hg2 (fun r hr e=>by cases hr;have:=hr1.lt;omega)
 have hb2:Below w.heap.size w w2:=(hb1.alloc hb1.size _).grown hg2 (Nat.le_trans hb1.size Z93) (fun k e=>by cases e;exact hb1.size)
 have hs2:SS w2 w1.heap.size []:=⟨_,SR.start,hx2⟩
 have hlt1:w.heap.size<w1.heap.size:=Nat.lt_of_lt_of_le hr1.lt (Nat.le_refl _)
 clear hr1 hz1 hx2 hg2 hb1
 generalize w1.heap.size=sb at hs2 hlt1⊢
 clear HH
 go_wp2_with fail
 go_loopw [9] (fun i wr=> ∃k:Nat,k≤ps.length∧i= .int .i64 k∧SS wr sb (ps.take k).flatten∧Blk wr w.heap.size 172 (List.replicate 32 (.int .u8 0))∧Below w.heap.size w wr) (fun i _=>ps.length-(intOf i).toNat)
 case atStart=>exact⟨0,Z11,rfl,hs2,hr2,hb2⟩
 case round=>
  clear hs2 hr2 hb2
  obtain⟨k,hk,rfl,hss,hr,hb⟩:=hrel
  by_cases hlt:k<ps.length
  case pos=>
   obtain⟨vs,hv0,hvs0⟩:=HR.out
   have hv:=hv0.below hb
   obtain⟨pb,po,pc,e1,hpc,hcs⟩:=hv.pos Z11
   cases e1
   have hvl:vs.length=ps.length:=by rw[hv.1];omega
   obtain⟨x,hx⟩: ∃x,vs[k]?=some x:=⟨vs[k],List.getElem?_eq_getElem Z11⟩
   have hcell:=hcs k x hx
   have hrd0:=hvs0 k x ps[k] hx (List.getElem?_eq_getElem hlt)
   have hrd:=hrd0.below hb
   obtain⟨xa,xc,hxv⟩:=hrd.slice
   have hfl:=flat_lenH ps k hlt
   have hft:=flat_take ps k hlt
   have HFT:=Lib.hid hft
   obtain⟨p,hp⟩: ∃p,p=ps[k]:=⟨_,rfl⟩
   rw[←hp] at hrd hrd0 hfl hxv HFT
   have HRD:=Lib.hid (And.intro hrd (And.intro hfl hrd0))
   have k0:(k:Int)<(ps.length:Int):=by omega
   clear hv hv0 hvs0 hcs hvl hx hrd hrd0 hfl hft hp
   subst hxv
   have HS:=Lib.hid (write_val sb (ps.take k).flatten p _ wr hss HRD.out.1 (fun bb o n c he hne=>by
    have:=rd_lt HRD.out.2.2 bb o n c he hne;omega) (by have:=HRD.out.2.1;omega))
   go_wp2_with fail
   refine HS.out.mono ?_
   rintro e w4 ⟨rfl,hs4,hg4⟩
   have HS4:Hid (SS w4 sb (ps.take (k+1)).flatten):=Lib.hid (by rw[HFT.out];exact hs4)
   have hr4:=hr.grown hg4 (fun r hr e=>by cases hr;omega)
   have hb4:=hb.grown hg4 hb.size (fun k e=>by cases e;omega)
   clear hs4 hg4 HS hss hr hb
   go_wp2_with fail
   go_roundw
   case rel=>exact⟨k+1,Z11,Z83,HS4.out,hr4,hb4⟩
   case measure=>simp[intOf];omega
  case neg=>
   have htk:ps.take k=ps:=List.take_of_length_le Z11
   rw[htk] at hss
   obtain⟨rst,hsr,hx⟩:=hss
   have hcs:Blk wr sb 219 (stCells ps.flatten rst):=hx
   have hln:(stCells ps.flatten rst).length=73:=by
    unfold stCells
    rw[List.length_append,List.length_append,bc_length,hsr.1];rfl
   have hst:(Tryz.prog.info? 219).map (·.size)=some (stCells ps.flatten rst).length:=by rw[hln];kernel_rfl
   have HST:=Lib.hid hst
   have HSUM:=Lib.hid (fun W=>sum_any ps.flatten rst W hsr hlen)
   unfold shV at HSUM
   clear htk hx hln hst
   generalize stCells ps.flatten rst=cs at hcs HST HSUM
   go_wp2_with (with_reducible refine wpList_load_blk rfl 219 (.tmp 3) rfl sb rfl 219 cs _ hcs Tryz.underlying219 rfl HST.out ?_)
   refine(HSUM.out _).mono ?_
   rintro e w5 ⟨rfl,hc5⟩
   have hr5:=hr.below hc5 hr.lt
   have hb5:=hb.trans (hc5.mono hb.size)
   have h32:(Lib.byteCells (sha ps.flatten)).length=32:=by rw[bc_length,sha_len]
   have hol:(List.replicate 32 (Value.int .u8 0)).length=(Lib.byteCells (sha ps.flatten)).length:=by rw[h32,List.length_replicate]
   have hsz:(Tryz.prog.info? 172).map (·.size)=some (Lib.byteCells (sha ps.flatten)).length:=by rw[h32];kernel_rfl
   have hsz2:(Tryz.prog.info? 172).map (·.size)=some (Lib.byteCells (sha ps.flatten)).toArray.size:=by rw[List.size_toArray];exact hsz
   have HSZ:=Lib.hid (And.intro hol (And.intro hsz hsz2))
   clear hol hsz hsz2 h32 hc5 hr hb HSUM HST hcs
   go_wp2_with (with_reducible refine wpList_store_blk rfl 172 (.tmp 2) (.tmp 17) rfl w.heap.size (Lib.byteCells (sha ps.flatten)) rfl rfl 172 _ hr5 HSZ.out.2.1 HSZ.out.1 (byte_one _) ?_)
   intro wC hxC hgC
   have hbC:Below w.heap.size w wC:=hb5.grown hgC hb5.size (fun k e=>by cases e;exact Nat.le_refl _)
   clear hgC hr5 hb5
   go_wp2_with fail
   try simp only[Exit.inBlock,Exit.then]
   refine bodyPost_ret (results_cell_row rfl _ _ w.heap.size 172 (Lib.byteCells (sha ps.flatten)).toArray (0,0) _ rfl hxC Tryz.underlying172 rfl HSZ.out.2.2) rfl ?_
   exact⟨rfl,hbC⟩
open Go.RowKit Sh
theorem info_parts3 {P:Program}{t:TypeId}{z:Value}{s b:Nat}(h:(P.info? t).map (fun i=>(i.zero,i.size,i.bytes))=some (some z,s,b)): ∃i,P.info? t=some i∧i.zero=some z∧i.size=s∧i.bytes=b:=by
 cases hi:P.info? t with
 |none=>rw[hi] at h;cases h
 |some i=>rw[hi] at h;simp at h;exact⟨i,rfl,h.1,h.2.1,h.2.2⟩
end Go.Proofs.YtdmjegelcdghlaaGreat
