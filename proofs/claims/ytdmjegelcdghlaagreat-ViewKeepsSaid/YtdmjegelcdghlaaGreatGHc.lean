/-
  Chapter 3: a block is taken (the program's). Conditions: none.
-/
import Derived.Test.YtdmjegelcdghlaaGreatGHa
set_option maxRecDepth 100000
set_option maxHeartbeats 64000000
set_option linter.unusedVariables false
set_option linter.unusedSimpArgs false
namespace Go.Proofs.YtdmjegelcdghlaaGreat
theorem Z83 {p:Prop}(h:p:=by go_num):p:=h
theorem Z27 {p:Prop}(h:p:=by kernel_rfl):p:=h
open Go.RowKit Sh
def uw (x:UInt32):Value:= .int .u32 (x.toNat:Int)
def wcs (l:List UInt32):List Value:=l.map uw++List.replicate (64-l.length) (.int .u32 0)
theorem wcs_at (l:List UInt32)(j:Nat)(h:j<l.length):(wcs l)[j]?=some (uw (l.getD j 0)):=by
 unfold wcs
 rw[List.getElem?_append_left (by simpa using h),List.getElem?_map,List.getElem?_eq_getElem h]
 simp[List.getD,h]
theorem wcs_new (l:List UInt32)(h:l.length<64):(wcs l)[l.length]?=some (.int .u32 0):=by
 unfold wcs
 rw[List.getElem?_append_right Z93,List.getElem?_replicate]
 simp;omega
theorem wcs_set (l:List UInt32)(x:UInt32)(h:l.length<64):(wcs l).set l.length (uw x)=wcs (l++ [x]):=by
 unfold wcs
 rw[List.set_append_right _ _ Z93]
 simp only[List.length_map,Nat.sub_self,List.map_append,List.map_cons,List.map_nil,List.length_append,List.length_cons,List.length_nil,List.append_assoc]
 obtain⟨k,hk⟩: ∃k,64-l.length=k+1:=⟨63-l.length,Z11⟩
 rw[hk,List.replicate_succ,List.set_cons_zero,show 64-(l.length+(0+1))=k from Z11]
 rfl
theorem wd_val (b:By)(t:Nat):uw (wd b t)= .int .u32 ((be (b.getD (4*t) 0) (b.getD (4*t+1) 0) (b.getD (4*t+2) 0) (b.getD (4*t+3) 0):Nat):Int):=by
 unfold uw wd
 rw[UInt32.toNat_ofNat',Nat.mod_eq_of_lt (be_lt _ _ _ _)]
theorem map_at (l:List UInt32)(j:Nat)(h:j<l.length):(l.map uw)[j]?=some (uw (l.getD j 0)):=by
 rw[List.getElem?_map,List.getElem?_eq_getElem h]
 simp[List.getD,h]
theorem rd_byte {W:World}{v:Value}{n:Nat}{b:By}(h:Rd W 1 v n (Lib.byteCells b)){j:Nat}(hj:j<b.length){bb off c:Nat}(hv:v= .slice (some ⟨bb,off,none⟩) n c):W.cell? ⟨bb,off+j,none⟩=some (.int .u8 ((b.getD j 0).toNat:Int)):=by
 rcases h.2 with⟨⟨a,cap,e⟩,h0⟩|⟨b',o',cap,e,_,hc⟩
 ·have:=h.1;rw[bc_length,h0] at this;omega
 ·rw[hv] at e;cases e
  refine hc j _ ?_
  simp[Lib.byteCells,List.getD,hj]
theorem w8 (x:UInt8):IntKind.u32.wrap (x.toNat:Int)=(x.toNat:Int):=wraps_u32 _ Z11 (by have:=x.toNat_lt;omega)
theorem w8_24 (x:UInt8):IntKind.u32.wrap ((x.toNat:Int)*16777216)=(x.toNat:Int)*16777216:=wraps_u32 _ Z11 (by have:=x.toNat_lt;omega)
theorem w8_16 (x:UInt8):IntKind.u32.wrap ((x.toNat:Int)*65536)=(x.toNat:Int)*65536:=wraps_u32 _ Z11 (by have:=x.toNat_lt;omega)
theorem w8_8 (x:UInt8):IntKind.u32.wrap ((x.toNat:Int)*256)=(x.toNat:Int)*256:=wraps_u32 _ Z11 (by have:=x.toNat_lt;omega)
theorem or_24 (x y:UInt8):bits .or .u32 ((x.toNat:Int)*16777216) ((y.toNat:Int)*65536)=(x.toNat:Int)*16777216+(y.toNat:Int)*65536:=by
 have:=x.toNat_lt;have:=y.toNat_lt
 exact bits_join .u32 32 Z39 wraps_u32 24 _ _ Z11 Z11 Z11 Z11 Z11 Z11
theorem or_16 (x y z:UInt8):bits .or .u32 ((x.toNat:Int)*16777216+(y.toNat:Int)*65536) ((z.toNat:Int)*256)=(x.toNat:Int)*16777216+(y.toNat:Int)*65536+(z.toNat:Int)*256:=by
 have:=x.toNat_lt;have:=y.toNat_lt;have:=z.toNat_lt
 exact bits_join .u32 32 Z39 wraps_u32 16 _ _ Z11 Z11 Z11 Z11 Z11 Z11
theorem or_8 (x y z u:UInt8):bits .or .u32 ((x.toNat:Int)*16777216+(y.toNat:Int)*65536+(z.toNat:Int)*256) (u.toNat:Int)=((be x y z u:Nat):Int):=by
 have:=x.toNat_lt;have:=y.toNat_lt;have:=z.toNat_lt;have:=u.toNat_lt
 rw[bits_join .u32 32 Z39 wraps_u32 8 _ _ Z11 Z11 Z11 Z11 Z11 Z11]
 unfold be;omega
theorem add_ex (a b:UInt32): ∃c:UInt32,Hid (c=a+b)∧IntKind.u32.wrap ((a.toNat:Int)+(b.toNat:Int))=(c.toNat:Int):=⟨_,Lib.hid rfl,add_w a b⟩
theorem xor_ex (a b:UInt32): ∃c:UInt32,Hid (c=a^^^b)∧bits .xor .u32 (a.toNat:Int) (b.toNat:Int)=(c.toNat:Int):=⟨_,Lib.hid rfl,bits_xor_w a b⟩
theorem and_ex (a b:UInt32): ∃c:UInt32,Hid (c=a&&&b)∧bits .and .u32 (a.toNat:Int) (b.toNat:Int)=(c.toNat:Int):=⟨_,Lib.hid rfl,bits_and_w a b⟩
theorem not_ex (a:UInt32): ∃c:UInt32,Hid (c= ~~~ a)∧bits .xor .u32 (if IntKind.u32.signed=true then-1 else IntKind.u32.max) (a.toNat:Int)=(c.toNat:Int):=by
 refine⟨0xFFFFFFFF^^^a,Lib.hid ?_,bits_xor_w 0xFFFFFFFF a⟩
 apply UInt32.toBitVec_inj.1
 rw[UInt32.toBitVec_xor,UInt32.toBitVec_not]
 exact BitVec.allOnes_xor
def mix (v u:Oct)(t:Nat):List UInt32:=(List.zipWith (· + ·) v.l u.l).take t++v.l.drop t
theorem lt8 {p:Nat→Prop}(t:Nat)(h:t<8)(k0:p 0)(k1:p 1)(k2:p 2)(k3:p 3)(k4:p 4)(k5:p 5)(k6:p 6)(k7:p 7):p t:=by
 obtain rfl|rfl|rfl|rfl|rfl|rfl|rfl|rfl:t=0∨t=1∨t=2∨t=3∨t=4∨t=5∨t=6∨t=7:=by omega
 all_goals assumption
theorem mix_at (v u:Oct)(tail:List Value)(t:Nat)(h:t<8):((mix v u t).map uw++tail)[t]?=some (uw (v.l.getD t 0)):=
 lt8 (p:=fun t=>((mix v u t).map uw++tail)[t]?=some (uw (v.l.getD t 0))) t h rfl rfl rfl rfl rfl rfl rfl rfl
theorem mix_set (v u:Oct)(tail:List Value)(t:Nat)(h:t<8):((mix v u t).map uw++tail).set t (uw (v.l.getD t 0+u.l.getD t 0))=(mix v u (t+1)).map uw++tail:=
 lt8 (p:=fun t=>((mix v u t).map uw++tail).set t (uw (v.l.getD t 0+u.l.getD t 0))=(mix v u (t+1)).map uw++tail) t h rfl rfl rfl rfl rfl rfl rfl rfl
theorem gr_trans {w a c:World}{b:Nat}(h:Below w.heap.size w a)(k:a.grownBy c (some b)):w.grownBy c (some b):=
 ⟨k.os.trans h.os,k.tape.trans h.tape,k.output.trans h.output,Nat.le_trans h.size k.size,fun x hx hne=>(k.block x (Nat.lt_of_lt_of_le hx h.size) hne).trans (h.block x hx)⟩
theorem gr_set {w a:World}{b:Nat}(h:w.grownBy a (some b))(j:Nat)(u:Value):w.grownBy (a.setCell ⟨b,j,none⟩ u) (some b):=by
 obtain⟨h1,h2,h3,h4,h5⟩:=h
 refine⟨h1,h2,h3,by simpa using h4,fun x hx hne=> ?_⟩
 rw[Below.heap_setCell _ _ _ _ (fun e=>hne (by simpa using e))]
 exact h5 x hx hne
theorem gr_drew {w a:World}{b:Nat}(h:w.grownBy a (some b)):w.grownBy a.drew (some b):=⟨h.os,h.tape,h.output,h.size,h.block⟩
theorem take_any (sb kb bb off cap:Nat)(v:Oct)(tail:List Value)(b:By)(w:World)(hs:Blk w sb 219 (v.l.map uw++tail))(hk:Blk w kb 234 (ks.map uw))
 (hb:Rd w 1 (.slice (some ⟨bb,off,none⟩) 64 cap) 64 (Lib.byteCells b)) (hl:b.length=64):
 Calls Tryz.prog 200 #[.pointer (some ⟨sb,0,none⟩),.slice (some ⟨bb,off,none⟩) 64 cap,.pointer (some ⟨kb,0,none⟩)] w fun e w'=>e= .returned (.tuple #[])∧Blk w' sb 219 ((tk v b).l.map uw++tail)∧w.grownBy w' (some sb):=by
 have HB:=Lib.hid hb
 have HS:=Lib.hid hs
 have HK:=Lib.hid hk
 have hs1:=hs.lt
 have hw0:Blk (w.alloc (.cells (wcs []).toArray 234)) w.heap.size 234 (wcs []):=Blk.new w _ _
 have hg0:Below w.heap.size w (w.alloc (.cells (wcs []).toArray 234)):=(Below.refl _ _).alloc (Nat.le_refl _) _
 go_enter Tryz.func200,Tryz.ntmps200
 go_wp2_with fail
 go_loopw [7,18] (fun _ i wr=> ∃t:Nat,t≤16∧i= .int .i64 t∧Blk wr w.heap.size 234 (wcs (sch b t))∧Below w.heap.size w wr) (fun _ i _=>16-(intOf i).toNat)
 case atStart=>exact⟨0,Z11,rfl,hw0,hg0⟩
 case round=>
  obtain⟨t,ht,rfl,hw,hg⟩:=hrel
  by_cases hlt:t<16
  case pos=>
   have r:=HB.out.below hg
   have c0:=rd_byte r (j:=4*t) Z11 rfl
   have c1:=rd_byte r (j:=4*t+1) Z11 rfl
   have c2:=rd_byte r (j:=4*t+2) Z11 rfl
   have c3:=rd_byte r (j:=4*t+3) Z11 rfl
   have z0:=hw.cell t (by have:=wcs_new (sch b t) (by rw[sch_len];omega);rwa[sch_len] at this)
   have z1:=hw.frozen t
   have HW:=Lib.hid hw
   have hwd:=wd_val b t
   obtain⟨x0,h0⟩: ∃x,x=b.getD (4*t) 0:=⟨_,rfl⟩
   obtain⟨x1,h1⟩: ∃x,x=b.getD (4*t+1) 0:=⟨_,rfl⟩
   obtain⟨x2,h2⟩: ∃x,x=b.getD (4*t+2) 0:=⟨_,rfl⟩
   obtain⟨x3,h3⟩: ∃x,x=b.getD (4*t+3) 0:=⟨_,rfl⟩
   rw[←h0] at c0 hwd
   rw[←h1] at c1 hwd
   rw[←h2] at c2 hwd
   rw[←h3] at c3 hwd
   have HWD:=Lib.hid hwd
   have a0:=w8 x0
   have a1:=w8 x1
   have a2:=w8 x2
   have a3:=w8 x3
   have b0:=w8_24 x0
   have b1:=w8_16 x1
   have b2:=w8_8 x2
   have o1:=or_24 x0 x1
   have o2:=or_16 x0 x1 x2
   have o3:=or_8 x0 x1 x2 x3
   have p4:(0:Int)≤(t:Int):=by omega
   have l4:(t:Int)<64:=by omega
   clear hw r hwd h0 h1 h2 h3
   have e0:IntKind.i64.wrap (4*(t:Int))=4*(t:Int):=IntWalk.i64_in _ Z11
   have p0:(0:Int)≤4*(t:Int):=by omega
   have l0:4*(t:Int)<64:=by omega
   have n0:(4*(t:Int)).toNat=4*t:=by omega
   have e1:IntKind.i64.wrap (4*(t:Int)+1)=4*(t:Int)+1:=IntWalk.i64_in _ Z11
   have p1:(0:Int)≤4*(t:Int)+1:=by omega
   have l1:4*(t:Int)+1<64:=by omega
   have n1:(4*(t:Int)+1).toNat=4*t+1:=by omega
   have e2:IntKind.i64.wrap (4*(t:Int)+2)=4*(t:Int)+2:=IntWalk.i64_in _ Z11
   have p2:(0:Int)≤4*(t:Int)+2:=by omega
   have l2:4*(t:Int)+2<64:=by omega
   have n2:(4*(t:Int)+2).toNat=4*t+2:=by omega
   have e3:IntKind.i64.wrap (4*(t:Int)+3)=4*(t:Int)+3:=IntWalk.i64_in _ Z11
   have p3:(0:Int)≤4*(t:Int)+3:=by omega
   have l3:4*(t:Int)+3<64:=by omega
   have n3:(4*(t:Int)+3).toNat=4*t+3:=by omega
   go_wp2_with fail
   go_still_tail 35,Z27
   clear a0 a1 a2 a3 b0 b1 b2 o1 o2 o3 e0 e1 e2 e3 n0 n1 n2 n3 c0 c1 c2 c3
   change wpList _ _ _ _ _ wr.drew
   have HW2:Hid (Blk wr.drew w.heap.size 234 (wcs (sch b t))):=HW
   have hg2:=hg.drew
   have z2:wr.drew.cell? ⟨w.heap.size,t,none⟩=some (.int .u32 0):=z0
   have z3:wr.drew.frozen? ⟨w.heap.size,t,none⟩=false:=z1
   clear HW hg z0 z1
   generalize wr.drew=w2 at HW2 hg2 z2 z3⊢
   go_wp2_with fail
   go_roundw
   case rel=>
    refine⟨t+1,Z11,Z83,?_,hg2.setCell (Nat.le_refl _) _⟩
    have hset:=wcs_set (sch b t) (wd b t) (by rw[sch_len];omega)
    rw[sch_len,HWD.out,←sch_lo b t hlt] at hset
    rw[←hset]
    exact HW2.out.set t _
   case measure=>simp[intOf];omega
  case neg=>
  have hw16:Blk wr w.heap.size 234 (wcs (sch b 16)):=by rw[show 16=t from Z11];exact hw
  clear hw0 hg0 hw
  have hlt1:16≤t:=by omega
  clear hlt
  obtain⟨t1,h1,h2⟩: ∃x,x=t∧16≤x:=⟨t,rfl,hlt1⟩
  subst h1
  clear hlt1
  go_wp2_with fail
  go_loopw [8] (fun i wr=> ∃t:Nat,16≤t∧t≤64∧i= .int .i64 t∧Blk wr w.heap.size 234 (wcs (sch b t))∧Below w.heap.size w wr) (fun i _=>64-(intOf i).toNat)
  case atStart=>exact⟨16,Z11,Z11,rfl,hw16,hg⟩
  case round=>
   clear hw16 hg ht h2
   obtain⟨t,ht16,ht,rfl,hw,hg⟩:=hrel
   by_cases hlt:t<64
   case pos=>
    have hlen:=sch_len b t
    have hset:=wcs_set (sch b t) (nx (sch b t)) Z11
    have c16:=hw.cell (t-16) (wcs_at (sch b t) (t-16) Z11)
    have c15:=hw.cell (t-15) (wcs_at (sch b t) (t-15) Z11)
    have c7:=hw.cell (t-7) (wcs_at (sch b t) (t-7) Z11)
    have c2:=hw.cell (t-2) (wcs_at (sch b t) (t-2) Z11)
    have z0:=hw.cell t (by have:=wcs_new (sch b t) Z11;rwa[sch_len] at this)
    have z1:=hw.frozen t
    rw[hlen,←sch_hi b t Z11] at hset
    have hnx:nx (sch b t)=(sch b t).getD (t-16) 0+(sch b t).getD (t-7) 0+s0 ((sch b t).getD (t-15) 0)+s1 ((sch b t).getD (t-2) 0):=by unfold nx;rw[hlen]
    unfold uw at c16 c15 c7 c2
    generalize (sch b t).getD (t-16) 0=x16 at c16 hnx
    generalize (sch b t).getD (t-15) 0=x15 at c15 hnx
    generalize (sch b t).getD (t-7) 0=x7 at c7 hnx
    generalize (sch b t).getD (t-2) 0=x2 at c2 hnx
    have HW:=Lib.hid hw
    have HSET:=Lib.hid hset
    have HNX:=Lib.hid hnx
    have p4:(0:Int)≤(t:Int):=by omega
    have l4:(t:Int)<64:=by omega
    have e16:IntKind.i64.wrap ((t:Int)-16)=(t:Int)-16:=IntWalk.i64_in _ Z11
    have p16:(0:Int)≤(t:Int)-16:=by omega
    have r16:(16:Int)≤(t:Int):=by omega
    have q16:(t:Int)-16<64:=by omega
    have n16:((t:Int)-16).toNat=t-16:=by omega
    have e15:IntKind.i64.wrap ((t:Int)-15)=(t:Int)-15:=IntWalk.i64_in _ Z11
    have p15:(0:Int)≤(t:Int)-15:=by omega
    have r15:(15:Int)≤(t:Int):=by omega
    have q15:(t:Int)-15<64:=by omega
    have n15:((t:Int)-15).toNat=t-15:=by omega
    have e7:IntKind.i64.wrap ((t:Int)-7)=(t:Int)-7:=IntWalk.i64_in _ Z11
    have p7:(0:Int)≤(t:Int)-7:=by omega
    have r7:(7:Int)≤(t:Int):=by omega
    have q7:(t:Int)-7<64:=by omega
    have n7:((t:Int)-7).toNat=t-7:=by omega
    have e2:IntKind.i64.wrap ((t:Int)-2)=(t:Int)-2:=IntWalk.i64_in _ Z11
    have p2:(0:Int)≤(t:Int)-2:=by omega
    have r2:(2:Int)≤(t:Int):=by omega
    have q2:(t:Int)-2<64:=by omega
    have n2:((t:Int)-2).toNat=t-2:=by omega
    clear hw hlen hset hnx
    go_wp2_with fail
    go_still Z27
    change Exit.then _ _ Exit.normal _ wr.drew
    have HW2:Hid (Blk wr.drew w.heap.size 234 (wcs (sch b t))):=HW
    have hg2:=hg.drew
    have d16:wr.drew.cell? ⟨w.heap.size,t-16,none⟩=some (.int .u32 (x16.toNat:Int)):=c16
    have d7:wr.drew.cell? ⟨w.heap.size,t-7,none⟩=some (.int .u32 (x7.toNat:Int)):=c7
    have z2:wr.drew.cell? ⟨w.heap.size,t,none⟩=some (.int .u32 0):=z0
    have z3:wr.drew.frozen? ⟨w.heap.size,t,none⟩=false:=z1
    clear HW hg z0 z1 c16 c15 c7 c2
    generalize wr.drew=w2 at HW2 hg2 z2 z3 d16 d7⊢
    obtain⟨A,hA,k1⟩:=add_ex x16 x7
    obtain⟨X1,hX1,k2⟩:=xor_ex (rot x15 7) (rot x15 18)
    obtain⟨X2,hX2,k3⟩:=xor_ex X1 (dn x15 3)
    obtain⟨A2,hA2,k4⟩:=add_ex A X2
    obtain⟨Y1,hY1,k5⟩:=xor_ex (rot x2 17) (rot x2 19)
    obtain⟨Y2,hY2,k6⟩:=xor_ex Y1 (dn x2 10)
    obtain⟨A3,hA3,k7⟩:=add_ex A2 Y2
    have h3:(x15.toNat:Int)/8=((dn x15 3).toNat:Int):=by rw[dn_nat];omega
    have h10:(x2.toNat:Int)/1024=((dn x2 10).toNat:Int):=by rw[dn_nat];omega
    go_wp2_with fail
    refine wp_region_still_tail 29 Z27 Z27 ?_
    simp only[List.take_succ_cons,List.take_zero,List.drop_succ_cons,List.drop_zero]
    repeat still_step
    still_call (rotl_7 x15 _)
    repeat still_step
    still_call (rotl_18 x15 _)
    repeat still_step
    still_call (rotl_17 x2 _)
    repeat still_step
    still_call (rotl_19 x2 _)
    repeat still_step
    refine wpStill_nil ?_
    change wpList _ _ _ _ _ w2.drew
    have HW3:Hid (Blk w2.drew w.heap.size 234 (wcs (sch b t))):=HW2
    have hg3:=hg2.drew
    have z4:w2.drew.cell? ⟨w.heap.size,t,none⟩=some (.int .u32 0):=z2
    have z5:w2.drew.frozen? ⟨w.heap.size,t,none⟩=false:=z3
    have HEQ:Hid (A3=nx (sch b t)):=Lib.hid (by rw[hA3.out,hA2.out,hA.out,hX2.out,hX1.out,hY2.out,hY1.out,HNX.out];rfl)
    clear k1 k2 k3 k4 k5 k6 k7 hA hX1 hX2 hA2 hY1 hY2 hA3 h3 h10 HW2 hg2 z2 z3 d16 d7
    generalize w2.drew=w3 at HW3 hg3 z4 z5⊢
    go_wp2_with fail
    go_roundw
    case rel=>exact⟨t+1,Z11,Z11,Z83,by rw[←HSET.out,←HEQ.out];exact HW3.out.set t _,hg3.setCell (Nat.le_refl _) _⟩
    case measure=>simp[intOf];omega
   case neg=>
    have hw64:Blk wr w.heap.size 234 (wcs (sch b 64)):=by rw[show 64=t from Z11];exact hw
    have hlt1:64≤t:=by omega
    clear ht16 ht hw hlt
    obtain⟨t2,h1,h2⟩: ∃x,x=t∧64≤x:=⟨t,rfl,hlt1⟩
    subst h1
    clear hlt1
    have hs2:=HS.out.below hg hs1
    generalize wr=wA at hg hw64 hs2⊢
    have s0:=hs2.cell 0 rfl
    have s1:=hs2.cell 1 rfl
    have s2:=hs2.cell 2 rfl
    have s3:=hs2.cell 3 rfl
    have s4:=hs2.cell 4 rfl
    have s5:=hs2.cell 5 rfl
    have s6:=hs2.cell 6 rfl
    have s7:=hs2.cell 7 rfl
    unfold uw at s0 s1 s2 s3 s4 s5 s6 s7
    have hv0:Blk (wA.alloc (.cells (v.l.map uw).toArray 216)) wA.heap.size 216 (v.l.map uw):=Blk.new wA _ _
    have hg0:Below wA.heap.size wA (wA.alloc (.cells (v.l.map uw).toArray 216)):=(Below.refl _ _).alloc (Nat.le_refl _) _
    go_wp2_with fail
    clear s0 s1 s2 s3 s4 s5 s6 s7
    go_loopw [102] (fun i w4=> ∃t:Nat,t≤64∧i= .int .i64 t∧Blk w4 wA.heap.size 216 ((rnds b v t).l.map uw)∧Below wA.heap.size wA w4) (fun i _=>64-(intOf i).toNat)
    case atStart=>exact⟨0,Z11,rfl,hv0,hg0⟩
    case round=>
     clear hv0 hg0
     obtain⟨t,ht,rfl,hv,hg4⟩:=hrel
     by_cases hlt:t<64
     case pos=>
      have hkt:=(HK.out.below (hg.trans (hg4.mono hg.size)) HK.out.lt).cell t (map_at ks t hlt)
      have hwt:=(hw64.below hg4 hw64.lt).cell t (wcs_at (sch b 64) t (by rw[sch_len];exact hlt))
      have HRN:Hid (rnds b v (t+1)=rnd (rnds b v t) (ks.getD t 0) ((sch b 64).getD t 0)):=Lib.hid rfl
      unfold uw at hkt hwt
      obtain⟨kk,hkk⟩: ∃kk,kk=ks.getD t 0:=⟨_,rfl⟩
      obtain⟨ww,hww⟩: ∃ww,ww=(sch b 64).getD t 0:=⟨_,rfl⟩
      rw[←hkk] at hkt HRN
      rw[←hww] at hwt HRN
      generalize rnds b v t=V at hv HRN
      have c0:=hv.cell 0 rfl
      have c1:=hv.cell 1 rfl
      have c2:=hv.cell 2 rfl
      have c3:=hv.cell 3 rfl
      have c4:=hv.cell 4 rfl
      have c5:=hv.cell 5 rfl
      have c6:=hv.cell 6 rfl
      have c7:=hv.cell 7 rfl
      unfold uw at c0 c1 c2 c3 c4 c5 c6 c7
      have HV:=Lib.hid hv
      have p4:(0:Int)≤(t:Int):=by omega
      have l4:(t:Int)<64:=by omega
      clear hkk hww hv
      go_wp2_with fail
      go_still Z27
      change Exit.then _ _ Exit.normal _ wr.drew
      have c0':wr.drew.cell? ⟨wA.heap.size,0,none⟩=some (.int .u32 (V.a.toNat:Int)):=c0
      have c1':wr.drew.cell? ⟨wA.heap.size,1,none⟩=some (.int .u32 (V.b.toNat:Int)):=c1
      have c2':wr.drew.cell? ⟨wA.heap.size,2,none⟩=some (.int .u32 (V.c.toNat:Int)):=c2
      have c3':wr.drew.cell? ⟨wA.heap.size,3,none⟩=some (.int .u32 (V.d.toNat:Int)):=c3
      have c4':wr.drew.cell? ⟨wA.heap.size,4,none⟩=some (.int .u32 (V.e.toNat:Int)):=c4
      have c5':wr.drew.cell? ⟨wA.heap.size,5,none⟩=some (.int .u32 (V.f.toNat:Int)):=c5
      have c6':wr.drew.cell? ⟨wA.heap.size,6,none⟩=some (.int .u32 (V.g.toNat:Int)):=c6
      have c7':wr.drew.cell? ⟨wA.heap.size,7,none⟩=some (.int .u32 (V.h.toNat:Int)):=c7
      have hkt':wr.drew.cell? ⟨kb,t,none⟩=some (.int .u32 (kk.toNat:Int)):=hkt
      have hwt':wr.drew.cell? ⟨w.heap.size,t,none⟩=some (.int .u32 (ww.toNat:Int)):=hwt
      have HV':Hid (Blk wr.drew wA.heap.size 216 (V.l.map uw)):=HV
      have hg4':=hg4.drew
      clear c0 c1 c2 c3 c4 c5 c6 c7 hkt hwt HV hg4
      generalize wr.drew=w5 at c0' c1' c2' c3' c4' c5' c6' c7' hkt' hwt' HV' hg4'⊢
      obtain⟨X1,hX1,k1⟩:=xor_ex (rot V.e 6) (rot V.e 11)
      obtain⟨X2,hX2,k2⟩:=xor_ex X1 (rot V.e 25)
      obtain⟨A1,hA1,k3⟩:=add_ex V.h X2
      obtain⟨E1,hE1,k4⟩:=and_ex V.e V.f
      obtain⟨N1,hN1,k5⟩:=not_ex V.e
      obtain⟨E2,hE2,k6⟩:=and_ex N1 V.g
      obtain⟨E3,hE3,k7⟩:=xor_ex E1 E2
      obtain⟨A2,hA2,k8⟩:=add_ex A1 E3
      obtain⟨A3,hA3,k9⟩:=add_ex A2 kk
      obtain⟨A4,hA4,k10⟩:=add_ex A3 ww
      have HONE:Hid (A4=one V kk ww):=Lib.hid (by rw[hA4.out,hA3.out,hA2.out,hA1.out,hE3.out,hE2.out,hN1.out,hE1.out,hX2.out,hX1.out];rfl)
      clear hX1 hX2 hA1 hE1 hN1 hE2 hE3 hA2 hA3 hA4
      go_wp2_with fail
      refine wp_region_still_lit Z27 Z27 ?_
      repeat still_step
      still_call (rotl_6 V.e _)
      repeat still_step
      still_call (rotl_11 V.e _)
      repeat still_step
      still_call (rotl_25 V.e _)
      repeat still_step
      refine wpStill_nil ?_
      change Exit.then _ _ Exit.normal _ w5.drew
      have c0'':w5.drew.cell? ⟨wA.heap.size,0,none⟩=some (.int .u32 (V.a.toNat:Int)):=c0'
      have c1'':w5.drew.cell? ⟨wA.heap.size,1,none⟩=some (.int .u32 (V.b.toNat:Int)):=c1'
      have c2'':w5.drew.cell? ⟨wA.heap.size,2,none⟩=some (.int .u32 (V.c.toNat:Int)):=c2'
      have c3'':w5.drew.cell? ⟨wA.heap.size,3,none⟩=some (.int .u32 (V.d.toNat:Int)):=c3'
      have c4'':w5.drew.cell? ⟨wA.heap.size,4,none⟩=some (.int .u32 (V.e.toNat:Int)):=c4'
      have c5'':w5.drew.cell? ⟨wA.heap.size,5,none⟩=some (.int .u32 (V.f.toNat:Int)):=c5'
      have c6'':w5.drew.cell? ⟨wA.heap.size,6,none⟩=some (.int .u32 (V.g.toNat:Int)):=c6'
      have c7'':w5.drew.cell? ⟨wA.heap.size,7,none⟩=some (.int .u32 (V.h.toNat:Int)):=c7'
      have hkt'':w5.drew.cell? ⟨kb,t,none⟩=some (.int .u32 (kk.toNat:Int)):=hkt'
      have hwt'':w5.drew.cell? ⟨w.heap.size,t,none⟩=some (.int .u32 (ww.toNat:Int)):=hwt'
      have HV'':Hid (Blk w5.drew wA.heap.size 216 (V.l.map uw)):=HV'
      have hg4'':=hg4'.drew
      clear c0' c1' c2' c3' c4' c5' c6' c7' hkt' hwt' HV' hg4'
      generalize w5.drew=w6 at c0'' c1'' c2'' c3'' c4'' c5'' c6'' c7'' hkt'' hwt'' HV'' hg4''⊢
      clear k1 k2 k3 k4 k5 k6 k7 k8 k9 k10 hkt'' hwt''
      rw[HONE.out]
      obtain⟨o,ho⟩: ∃o,o=one V kk ww:=⟨_,rfl⟩
      rw[←ho]
      have HO:=Lib.hid ho
      clear ho
      obtain⟨X1,hX1,k1⟩:=xor_ex (rot V.a 2) (rot V.a 13)
      obtain⟨X2,hX2,k2⟩:=xor_ex X1 (rot V.a 22)
      obtain⟨E1,hE1,k3⟩:=and_ex V.a V.b
      obtain⟨E2,hE2,k4⟩:=and_ex V.a V.c
      obtain⟨E3,hE3,k5⟩:=xor_ex E1 E2
      obtain⟨E4,hE4,k6⟩:=and_ex V.b V.c
      obtain⟨E5,hE5,k7⟩:=xor_ex E3 E4
      obtain⟨T,hT,k8⟩:=add_ex X2 E5
      have HTWO:Hid (T=two V):=Lib.hid (by rw[hT.out,hE5.out,hE4.out,hE3.out,hE2.out,hE1.out,hX2.out,hX1.out];rfl)
      clear hX1 hX2 hE1 hE2 hE3 hE4 hE5 hT
      go_wp2_with fail
      refine wp_region_still_lit Z27 Z27 ?_
      repeat still_step
      still_call (rotl_2 V.a _)
      repeat still_step
      still_call (rotl_13 V.a _)
      repeat still_step
      still_call (rotl_22 V.a _)
      repeat still_step
      refine wpStill_nil ?_
      change Exit.then _ _ Exit.normal _ w6.drew
      obtain⟨na,hna,k9⟩:=add_ex o T
      obtain⟨ne,hne,k10⟩:=add_ex V.d o
      have c0:w6.drew.cell? ⟨wA.heap.size,0,none⟩=some (.int .u32 (V.a.toNat:Int)):=c0''
      have c1:w6.drew.cell? ⟨wA.heap.size,1,none⟩=some (.int .u32 (V.b.toNat:Int)):=c1''
      have c2:w6.drew.cell? ⟨wA.heap.size,2,none⟩=some (.int .u32 (V.c.toNat:Int)):=c2''
      have c3:w6.drew.cell? ⟨wA.heap.size,3,none⟩=some (.int .u32 (V.d.toNat:Int)):=c3''
      have c4:w6.drew.cell? ⟨wA.heap.size,4,none⟩=some (.int .u32 (V.e.toNat:Int)):=c4''
      have c5:w6.drew.cell? ⟨wA.heap.size,5,none⟩=some (.int .u32 (V.f.toNat:Int)):=c5''
      have c6:w6.drew.cell? ⟨wA.heap.size,6,none⟩=some (.int .u32 (V.g.toNat:Int)):=c6''
      have c7:w6.drew.cell? ⟨wA.heap.size,7,none⟩=some (.int .u32 (V.h.toNat:Int)):=c7''
      have HV2:Hid (Blk w6.drew wA.heap.size 216 (V.l.map uw)):=HV''
      have hg5:=hg4''.drew
      clear k1 k2 k3 k4 k5 k6 k7 k8 c0'' c1'' c2'' c3'' c4'' c5'' c6'' c7'' HV'' hg4''
      generalize w6.drew=w7 at c0 c1 c2 c3 c4 c5 c6 c7 HV2 hg5⊢
      have f0:=HV2.out.frozen 0
      have f1:=HV2.out.frozen 1
      have f2:=HV2.out.frozen 2
      have f3:=HV2.out.frozen 3
      have f4:=HV2.out.frozen 4
      have f5:=HV2.out.frozen 5
      have f6:=HV2.out.frozen 6
      have f7:=HV2.out.frozen 7
      go_wp2_with fail
      go_roundw
      case rel=>
       refine⟨t+1,Z11,Z83,?_,(((((((hg5.setCell (Nat.le_refl _) _).setCell (Nat.le_refl _) _).setCell (Nat.le_refl _) _).setCell (Nat.le_refl _) _).setCell (Nat.le_refl _) _).setCell (Nat.le_refl _) _).setCell (Nat.le_refl _) _).setCell (Nat.le_refl _) _⟩
       have hl8:(rnds b v (t+1)).l.map uw= [uw na,uw V.a,uw V.b,uw V.c,uw ne,uw V.e,uw V.f,uw V.g]:=by rw[HRN.out,hna.out,hne.out,HTWO.out,HO.out];rfl
       rw[hl8]
       exact(((((((HV2.out.set 0 _).set 1 _).set 2 _).set 3 _).set 4 _).set 5 _).set 6 _).set 7 _
      case measure=>simp[intOf];omega
     case neg=>
      have hv64:Blk wr wA.heap.size 216 ((rnds b v 64).l.map uw):=by rw[show 64=t from Z11];exact hv
      have hlt1:64≤t:=by omega
      clear ht hv hlt
      obtain⟨t3,h1,h3⟩: ∃x,x=t∧64≤x:=⟨t,rfl,hlt1⟩
      subst h1
      clear hlt1
      have hs4:=hs2.below hg4 hs2.lt
      have hgw:=hg.trans (hg4.mono hg.size)
      have hne:wA.heap.size≠sb:=by have:=hg.size;omega
      have hmt:(rnds b v 64).l.length=8:=rfl
      have hsum:tk v b=sum8 v (rnds b v 64):=rfl
      generalize rnds b v 64=U at hv64 hmt hsum
      clear hs2 hw64 hg4
      generalize hN:wA.heap.size=vb at hv64 hne⊢
      clear hN hg
      generalize wr=w4 at hs4 hgw hv64⊢
      go_wp2_with fail
      go_loopw [186] (fun i w5=> ∃t:Nat,t≤8∧i= .int .i64 t∧Blk w5 sb 219 ((mix v U t).map uw++tail)∧w4.grownBy w5 (some sb)) (fun i _=>8-(intOf i).toNat)
      case atStart=>exact⟨0,Z11,rfl,hs4,World.grownBy.refl _ _⟩
      case round=>
       obtain⟨t,ht,rfl,hs5,hg5⟩:=hrel
       by_cases hlt:t<8
       case pos=>
        have hu:=(hv64.grown hg5 (fun r hr e=>by cases hr;exact hne e)).cell t (map_at U.l t (by rw[hmt];exact hlt))
        have hx:=hs5.cell t (mix_at v U tail t hlt)
        have hset:=mix_set v U tail t hlt
        unfold uw at hu hx
        have hf:=hs5.frozen t
        obtain⟨x,hxx⟩: ∃x,x=v.l.getD t 0:=⟨_,rfl⟩
        obtain⟨y,hyy⟩: ∃y,y=U.l.getD t 0:=⟨_,rfl⟩
        rw[←hxx] at hx hset
        rw[←hyy] at hu hset
        obtain⟨z,hz,k1⟩:=add_ex x y
        rw[←hz.out] at hset
        have HSET:=Lib.hid hset
        have HS5:=Lib.hid hs5
        have p4:(0:Int)≤(t:Int):=by omega
        have l4:(t:Int)<8:=by omega
        clear hxx hyy hset hs5 hmt hsum
        go_wp2_with fail
        go_still_tail 13,Z27
        change wpList _ _ _ _ _ wr.drew
        have HS6:Hid (Blk wr.drew sb 219 ((mix v U t).map uw++tail)):=HS5
        have hg6:=gr_drew hg5
        have hx6:wr.drew.cell? ⟨sb,t,none⟩=some (.int .u32 (x.toNat:Int)):=hx
        have hf6:wr.drew.frozen? ⟨sb,t,none⟩=false:=hf
        clear HS5 hg5 hu hx hf k1
        generalize wr.drew=w6 at HS6 hg6 hx6 hf6⊢
        go_wp2_with fail
        go_roundw
        case rel=>exact⟨t+1,Z11,Z83,by rw[←HSET.out];exact HS6.out.set t _,gr_set hg6 t _⟩
        case measure=>simp[intOf];omega
       case neg=>
        have hs8:Blk wr sb 219 ((mix v U 8).map uw++tail):=by rw[show 8=t from Z11];exact hs5
        clear hs5
        go_wp2_with fail
        try simp only[Exit.inBlock,Exit.then]
        go_end0
        exact⟨rfl,by rw[hsum];exact hs8,gr_trans hgw hg5⟩
end Go.Proofs.YtdmjegelcdghlaaGreat
