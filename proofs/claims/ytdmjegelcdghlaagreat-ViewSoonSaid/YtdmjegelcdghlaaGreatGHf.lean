/-
  Chapter 3: the digest of what a state was told (the program's). Condition: all bytes together are fewer than 2^59.
-/
import Derived.Test.YtdmjegelcdghlaaGreatGHe
set_option maxRecDepth 100000
set_option maxHeartbeats 64000000
set_option linter.unusedVariables false
set_option linter.unusedSimpArgs false
namespace Go.Proofs.YtdmjegelcdghlaaGreat
open Go.RowKit Sh
def stCells (m rest:By):List Value:=(blks h0 m (m.length/64)).l.map uw++(Lib.byteCells rest++ [.int .i64 (m.length:Int)])
def shV (m rest:By):Value:= .agg (stCells m rest).toArray
def nAt (W:World)(sb:Nat):Nat:=match W.cell? ⟨sb,72,none⟩ with
 |some (.int _ n)=>n.toNat
 |_=>0
theorem nAt_of {W:World}{sb:Nat}{n:Int}(h:W.cell? ⟨sb,72,none⟩=some (.int .i64 n)):nAt W sb=n.toNat:=by unfold nAt;rw[h]
theorem SS.n {W:World}{sb:Nat}{m:By}(h:SS W sb m):W.cell? ⟨sb,72,none⟩=some (.int .i64 (m.length:Int)):=by
 obtain⟨r,h1,h2⟩:=h
 exact h2.cell 72 (at72 _ _ _ rfl h1.1)
theorem rd_one (W:World)(c:UInt8):Rd (W.alloc (.cells #[.int .u8 (c.toNat:Int)] 5)) 1 (.slice (some ⟨W.heap.size,0,none⟩) 1 1) 1 (Lib.byteCells [c]):=
 ⟨rfl,.inr ⟨W.heap.size,0,1,rfl,Nat.le_refl _,fun j u hj=>by
  have h:=cells_new W (Lib.byteCells [c]) 5 j u hj
  rw[Addr.add_lit] at h
  exact h⟩⟩
def lcs (n t:Nat):List Value:=Lib.byteCells ((le8 n).take t)++List.replicate (8-t) (.int .u8 0)
theorem lcs_at (n t:Nat)(h:t<8):(lcs n t)[t]?=some (.int .u8 0):=by
 unfold lcs
 have hl:((le8 n).take t).length=t:=by simp[le8];omega
 rw[List.getElem?_append_right (by rw[bc_length,hl];exact Nat.le_refl _),bc_length,hl,Nat.sub_self,List.getElem?_replicate,if_pos Z11]
theorem lcs_set (n t:Nat)(h:t<8)(v:Value)(hv:v= .int .u8 (((le8 n).getD t 0).toNat:Int)):(lcs n t).set t v=lcs n (t+1):=by
 unfold lcs
 have h8:(le8 n).length=8:=by simp[le8]
 have hl:((le8 n).take t).length=t:=by rw[List.length_take];omega
 have hgd:(le8 n).getD t 0=(le8 n)[t]'Z11:=by simp[List.getD,h8,h]
 rw[hgd] at hv
 rw[List.set_append_right _ _ (by rw[bc_length,hl];exact Nat.le_refl _),bc_length,hl,Nat.sub_self]
 obtain⟨k,hk⟩: ∃k,8-t=k+1:=⟨7-t,Z11⟩
 rw[hk,List.replicate_succ,List.set_cons_zero,show 8-(t+1)=k from Z11,List.take_succ_eq_append_getElem Z11,bc_append,hv,List.append_assoc]
 rfl
theorem le8_at (n t:Nat)(h:t<8)(hn:n≤576460752303423488):(((le8 n).getD t 0).toNat:Int)=(n:Int)*8/2^(56-8*t)% 256:=by
 have h1:(le8 n).getD t 0=UInt8.ofNat (n*8 % 18446744073709551616/2^(56-8*t)% 256):=by simp[le8,List.getD,h]
 rw[h1,UInt8.toNat_ofNat',Nat.mod_eq_of_lt (show n*8<18446744073709551616 by omega)]
 have h2:n*8/2^(56-8*t)% 256 % 2^8=n*8/2^(56-8*t)% 256:=Nat.mod_eq_of_lt (Nat.mod_lt _ Z39)
 rw[h2,Int.natCast_emod,Int.natCast_ediv,Int.natCast_mul,Int.natCast_pow]
 rfl
theorem wpList_load_blk {P:Program}{ops:Array Oper}{rest:List Oper}{o:Oper}{a:Act}{w:World}{Q:Exit→Act→World→Prop}(hgd:o.guard=none)(ty:TypeId)(x:Operand)(ho:o.op= .load ty x)
 (g:Nat) (hx:a.eval x= .pointer (some ⟨g,0,none⟩)) (t:TypeId) (cs:List Value) (d:TypeDesc) (hg:Blk w g t cs)
 (hu:P.underlying ty=some d) (hd:(match d with| .struct _| .array _ _=>true|_=>false)=true) (hi:(P.info? ty).map (·.size)=some cs.length)
 (h:wpList P ops Q rest (a.put o.dst (.agg cs.toArray)) w):wpList P ops Q (o::rest) a w:=
 wpList_load_row hgd ty x ho g hx t cs.toArray (0,0) d hg hu hd (by simpa using hi) h
theorem wpList_store_blk {P:Program}{ops:Array Oper}{rest:List Oper}{o:Oper}{a:Act}{w:World}{Q:Exit→Act→World→Prop}(hgd:o.guard=none)(ty:TypeId)(x y:Operand)(ho:o.op= .store ty x y)
 (g:Nat) (cs:List Value) (hx:a.eval x= .pointer (some ⟨g,0,none⟩)) (hy:a.eval y= .agg cs.toArray)
 (t:TypeId) (old:List Value) (hg:Blk w g t old) (hi:(P.info? ty).map (·.size)=some cs.length)
 (hold:old.length=cs.length) (h1: ∀u∈cs,u.oneCell'=true)
 (h: ∀w',Blk w' g t cs→w.grownBy w' (some g)→wpList P ops Q rest (a.put o.dst undef) w'):wpList P ops Q (o::rest) a w:=by
 refine wpList_store_row hgd ty x y ho g cs.toArray hx hy t old.toArray hg (by simpa using hi) (by simpa using hold) ?_ ?_
 ·rw[Array.all_eq_true_iff_forall_mem]
  intro u hu
  exact h1 u (by simpa using hu)
 ·refine h _ ?_ ?_
  ·exact setRow_heap w g _ cs.toArray t _ hg
  ·exact Z138
theorem lcs_full (n:Nat):lcs n 8=Lib.byteCells (le8 n):=by
 unfold lcs;rw[List.take_of_length_le (by simp[le8])];simp
theorem le8_len (n:Nat):(le8 n).length=8:=by simp[le8]
theorem blk_rd {W:World}{g:Nat}{t:TypeId}{b:By}(h:Blk W g t (Lib.byteCells b))(n:Nat)(hn:b.length=n):Rd W 1 (.slice (some ⟨g,0,none⟩) n n) n (Lib.byteCells b):=
 ⟨Z132,.inr ⟨g,0,n,rfl,Nat.le_refl _,fun j u hj=>by rw[Nat.zero_add];exact h.cell j hj⟩⟩
theorem ix_word (U:Oct)(t:Nat)(h:t<8)(W:World):(Instr.index 216 (.agg #[.int .u32 (U.a.toNat:Int),.int .u32 (U.b.toNat:Int),.int .u32 (U.c.toNat:Int),.int .u32 (U.d.toNat:Int),.int .u32 (U.e.toNat:Int),.int .u32 (U.f.toNat:Int),.int .u32 (U.g.toNat:Int),.int .u32 (U.h.toNat:Int)]) (.int .i64 (t:Int))).run Tryz.prog W= .ok (.int .u32 ((U.l.getD t 0).toNat:Int)) W:=
 lt8 (p:=fun t=>(Instr.index 216 (.agg #[.int .u32 (U.a.toNat:Int),.int .u32 (U.b.toNat:Int),.int .u32 (U.c.toNat:Int),.int .u32 (U.d.toNat:Int),.int .u32 (U.e.toNat:Int),.int .u32 (U.f.toNat:Int),.int .u32 (U.g.toNat:Int),.int .u32 (U.h.toNat:Int)]) (.int .i64 (t:Int))).run Tryz.prog W= .ok (.int .u32 ((U.l.getD t 0).toNat:Int)) W) t h Z27 Z27 Z27 Z27 Z27 Z27 Z27 Z27
def dcs (U:Oct)(t:Nat):List Value:=Lib.byteCells ((dig U).take (4*t))++List.replicate (32-4*t) (.int .u8 0)
theorem dcs_at (U:Oct)(t j:Nat)(h:t<8)(hj:j<4):(dcs U t)[4*t+j]?=some (.int .u8 0):=by
 unfold dcs
 have hd:(dig U).length=32:=rfl
 have hl:((dig U).take (4*t)).length=4*t:=by rw[List.length_take];omega
 rw[List.getElem?_append_right (by rw[bc_length,hl];omega),bc_length,hl,List.getElem?_replicate,if_pos Z11]
theorem dcs_full (U:Oct):dcs U 8=Lib.byteCells (dig U):=by
 unfold dcs;rw[List.take_of_length_le (show(dig U).length≤4*8 from Nat.le_refl _)];simp
theorem dcs_set (U:Oct)(t:Nat)(h:t<8):((((dcs U t).set (4*t) (.int .u8 ((UInt8.ofNat ((U.l.getD t 0).toNat/16777216)).toNat:Int))).set (4*t+1) (.int .u8 ((UInt8.ofNat ((U.l.getD t 0).toNat/65536 % 256)).toNat:Int))).set (4*t+2) (.int .u8 ((UInt8.ofNat ((U.l.getD t 0).toNat/256 % 256)).toNat:Int))).set (4*t+3) (.int .u8 ((UInt8.ofNat ((U.l.getD t 0).toNat % 256)).toNat:Int))=dcs U (t+1):=
 lt8 (p:=fun t=>((((dcs U t).set (4*t) (.int .u8 ((UInt8.ofNat ((U.l.getD t 0).toNat/16777216)).toNat:Int))).set (4*t+1) (.int .u8 ((UInt8.ofNat ((U.l.getD t 0).toNat/65536 % 256)).toNat:Int))).set (4*t+2) (.int .u8 ((UInt8.ofNat ((U.l.getD t 0).toNat/256 % 256)).toNat:Int))).set (4*t+3) (.int .u8 ((UInt8.ofNat ((U.l.getD t 0).toNat % 256)).toNat:Int))=dcs U (t+1)) t h rfl rfl rfl rfl rfl rfl rfl rfl
theorem by_24 (x:UInt32):((UInt8.ofNat (x.toNat/16777216)).toNat:Int)=(x.toNat:Int)/16777216:=by
 have:=x.toNat_lt;rw[UInt8.toNat_ofNat',Nat.mod_eq_of_lt Z11];exact Int.natCast_ediv _ _
theorem by_16 (x:UInt32):((UInt8.ofNat (x.toNat/65536 % 256)).toNat:Int)=(x.toNat:Int)/65536 % 256:=by
 rw[UInt8.toNat_ofNat',Nat.mod_eq_of_lt Z11,Int.natCast_emod,Int.natCast_ediv];rfl
theorem by_8 (x:UInt32):((UInt8.ofNat (x.toNat/256 % 256)).toNat:Int)=(x.toNat:Int)/256 % 256:=by
 rw[UInt8.toNat_ofNat',Nat.mod_eq_of_lt Z11,Int.natCast_emod,Int.natCast_ediv];rfl
theorem by_0 (x:UInt32):((UInt8.ofNat (x.toNat % 256)).toNat:Int)=(x.toNat:Int)% 256:=by
 rw[UInt8.toNat_ofNat',Nat.mod_eq_of_lt Z11,Int.natCast_emod];rfl
theorem sum_any (m rest:By)(w:World)(hsr:SR m rest)(hlen:m.length≤576460752303423488):
 Calls Tryz.prog 190 #[shV m rest] w fun e w'=>e= .returned (.agg (Lib.byteCells (sha m)).toArray)∧Below w.heap.size w w':=by
 have hx0:Blk (w.alloc (.cells (stCells m rest).toArray 219)) w.heap.size 219 (stCells m rest):=Blk.new w _ _
 have hs0:SS (w.alloc (.cells (stCells m rest).toArray 219)) w.heap.size m:=⟨rest,hsr,hx0⟩
 have hb0:Below w.heap.size w (w.alloc (.cells (stCells m rest).toArray 219)):=(Below.refl _ _).alloc (Nat.le_refl _) _
 have hr1:Blk ((w.alloc (.cells (stCells m rest).toArray 219)).alloc (.cells #[.int .u8 0,.int .u8 0,.int .u8 0,.int .u8 0,.int .u8 0,.int .u8 0,.int .u8 0,.int .u8 0,.int .u8 0,.int .u8 0,.int .u8 0,.int .u8 0,.int .u8 0,.int .u8 0,.int .u8 0,.int .u8 0,.int .u8 0,.int .u8 0,.int .u8 0,.int .u8 0,.int .u8 0,.int .u8 0,.int .u8 0,.int .u8 0,.int .u8 0,.int .u8 0,.int .u8 0,.int .u8 0,.int .u8 0,.int .u8 0,.int .u8 0,.int .u8 0] 172)) (w.heap.size+1) 172 (List.replicate 32 (.int .u8 0)):=by
  have h:=Blk.new (w.alloc (.cells (stCells m rest).toArray 219)) 172 (List.replicate 32 (.int .u8 0))
  rw[World.size_alloc] at h
  exact h
 have hs1:SS ((w.alloc (.cells (stCells m rest).toArray 219)).alloc (.cells #[.int .u8 0,.int .u8 0,.int .u8 0,.int .u8 0,.int .u8 0,.int .u8 0,.int .u8 0,.int .u8 0,.int .u8 0,.int .u8 0,.int .u8 0,.int .u8 0,.int .u8 0,.int .u8 0,.int .u8 0,.int .u8 0,.int .u8 0,.int .u8 0,.int .u8 0,.int .u8 0,.int .u8 0,.int .u8 0,.int .u8 0,.int .u8 0,.int .u8 0,.int .u8 0,.int .u8 0,.int .u8 0,.int .u8 0,.int .u8 0,.int .u8 0,.int .u8 0] 172)) w.heap.size m:=hs0.below ((Below.refl _ _).alloc (Nat.le_refl _) _)
 have hb1:Below w.heap.size w ((w.alloc (.cells (stCells m rest).toArray 219)).alloc (.cells #[.int .u8 0,.int .u8 0,.int .u8 0,.int .u8 0,.int .u8 0,.int .u8 0,.int .u8 0,.int .u8 0,.int .u8 0,.int .u8 0,.int .u8 0,.int .u8 0,.int .u8 0,.int .u8 0,.int .u8 0,.int .u8 0,.int .u8 0,.int .u8 0,.int .u8 0,.int .u8 0,.int .u8 0,.int .u8 0,.int .u8 0,.int .u8 0,.int .u8 0,.int .u8 0,.int .u8 0,.int .u8 0,.int .u8 0,.int .u8 0,.int .u8 0,.int .u8 0] 172)):=hb0.alloc Z93 _
 unfold shV
 generalize stCells m rest=cs at hx0 hs0 hb0 hr1 hs1 hb1⊢
 clear hx0 hs0 hb0
 have c72:=hs1.n
 have e1:IntKind.u64.wrap (m.length:Int)=(m.length:Int):=wraps_u64 _ Z11 Z11
 have e2:IntKind.u64.wrap ((m.length:Int)*8)=(m.length:Int)*8:=wraps_u64 _ Z11 Z11
 go_enter Tryz.func190,Tryz.ntmps190
 go_wp2_with fail
 have hz1:((w.alloc (.cells cs.toArray 219)).alloc (.cells #[.int .u8 0,.int .u8 0,.int .u8 0,.int .u8 0,.int .u8 0,.int .u8 0,.int .u8 0,.int .u8 0,.int .u8 0,.int .u8 0,.int .u8 0,.int .u8 0,.int .u8 0,.int .u8 0,.int .u8 0,.int .u8 0,.int .u8 0,.int .u8 0,.int .u8 0,.int .u8 0,.int .u8 0,.int .u8 0,.int .u8 0,.int .u8 0,.int .u8 0,.int .u8 0,.int .u8 0,.int .u8 0,.int .u8 0,.int .u8 0,.int .u8 0,.int .u8 0] 172)).heap.size=w.heap.size+1+1:=by simp
 clear c72 e1 e2
 generalize (w.alloc (.cells cs.toArray 219)).alloc (.cells #[.int .u8 0,.int .u8 0,.int .u8 0,.int .u8 0,.int .u8 0,.int .u8 0,.int .u8 0,.int .u8 0,.int .u8 0,.int .u8 0,.int .u8 0,.int .u8 0,.int .u8 0,.int .u8 0,.int .u8 0,.int .u8 0,.int .u8 0,.int .u8 0,.int .u8 0,.int .u8 0,.int .u8 0,.int .u8 0,.int .u8 0,.int .u8 0,.int .u8 0,.int .u8 0,.int .u8 0,.int .u8 0,.int .u8 0,.int .u8 0,.int .u8 0,.int .u8 0] 172)=w1 at hr1 hs1 hb1 hz1⊢
 have hone:=rd_one w1 128
 rw[hz1] at hone
 have hss:=hs1.below ((Below.refl _ _).alloc (Nat.le_refl _) (.cells #[.int .u8 ((128:UInt8).toNat:Int)] 5))
 refine(write_any w.heap.size (w.heap.size+1+1) 0 1 m [128] _ hss hone Z39 Z11 (by simp;omega)).mono ?_
 rintro e w2 ⟨rfl,hs2,hg2⟩
 have hr2:=(hr1.alloc (.cells #[.int .u8 ((128:UInt8).toNat:Int)] 5)).grown hg2 (fun r hr e=>by cases hr;omega)
 have hb2:Below w.heap.size w w2:=(hb1.alloc hb1.size _).grown hg2 (Nat.le_trans hb1.size Z93) (fun k e=>by cases e;omega)
 clear hr1 hs1 hb1 hz1 hone hss hg2
 generalize N8:(m.length:Int)*8=n8
 have HN8:=Lib.hid N8
 clear N8
 go_wp2_with fail
 go_loopw [18] (fun _ wr=> ∃k:Nat,k≤zs m.length∧SS wr w.heap.size (m++128::List.replicate k 0)∧Blk wr (w.heap.size+1) 172 (List.replicate 32 (.int .u8 0))∧Below w.heap.size w wr) (fun _ wr=>m.length+1+zs m.length-nAt wr w.heap.size)
 case atStart=>exact⟨0,Z11,hs2,hr2,hb2⟩
 case round=>
  clear hs2 hr2 hb2
  obtain⟨k,hk,hss,hr,hb⟩:=hrel
  have hLl:(m++128::List.replicate k 0).length=m.length+1+k:=by simp;omega
  have cn:=hss.n
  have hzs:zs m.length<64:=by unfold zs;omega
  rw[hLl] at cn
  obtain⟨L,hL⟩: ∃L,L=m.length+1+k:=⟨_,rfl⟩
  rw[←hL] at cn hLl
  have HNA:=Lib.hid (nAt_of cn)
  have HLl:=Lib.hid hLl
  have HL:=Lib.hid hL
  by_cases hlt:k<zs m.length
  case pos=>
   have hne:=pad_more m.length k hlt
   rw[←hL] at hne
   have b0:((L:Int)% 64==56)=false:=by rw[beq_eq_false_iff_ne];omega
   have b1:((L:Int)% 64 !=56)=true:=by rw[bne,b0];rfl
   clear hLl hL hne
   go_wp2_with fail
   refine(write_any w.heap.size wr.heap.size 0 1 _ [0] _ (hss.below ((Below.refl _ _).alloc (Nat.le_refl _) _)) (rd_one wr 0) Z39 (by have:=hss.lt;omega) (by rw[HLl.out,HL.out];simp;omega)).mono ?_
   rintro e w4 ⟨rfl,hs4,hg4⟩
   have hr4:=(hr.alloc (.cells #[.int .u8 ((0:UInt8).toNat:Int)] 5)).grown hg4 (fun r hr e=>by cases hr;omega)
   have hb4:Below w.heap.size w w4:=(hb.alloc hb.size _).grown hg4 (Nat.le_trans hb.size Z93) (fun k e=>by cases e;omega)
   have HS4:Hid (SS w4 w.heap.size (m++128::List.replicate (k+1) 0)):=Lib.hid (by
    rw[List.replicate_succ']
    have e:=hs4
    rw[List.append_assoc] at e
    exact e)
   clear hss hr hb cn hs4 hg4
   go_wp2_with fail
   go_roundw
   case rel=>exact⟨k+1,Z11,HS4.out,hr4,hb4⟩
   case measure=>
    rw[HNA.out,nAt_of HS4.out.n]
    have:=HL.out
    simp
    omega
  case neg=>
   obtain⟨k2,hk2,hk3⟩: ∃x,x=k∧zs m.length≤x:=⟨k,rfl,Z11⟩
   have hpz:=pad_zeros m.length
   have b0:((L:Int)% 64==56)=true:=by rw[beq_iff_eq];omega
   have b1:((L:Int)% 64 !=56)=false:=by rw[bne,b0];rfl
   have HSZ:Hid (SS wr w.heap.size (m++128::List.replicate (zs m.length) 0)):=Lib.hid (by rw[show zs m.length=k from Z11];exact hss)
   clear hpz hLl hL hss hk2 hk3 HNA hk hlt hzs
   go_wp2_with fail
   clear cn b0 b1
   generalize wr=wB at hr hb HSZ⊢
   have hl0:Blk (wB.alloc (.cells #[.int .u8 0,.int .u8 0,.int .u8 0,.int .u8 0,.int .u8 0,.int .u8 0,.int .u8 0,.int .u8 0] 232)) wB.heap.size 232 (lcs m.length 0):=Blk.new wB _ _
   have hg0:Below wB.heap.size wB (wB.alloc (.cells #[.int .u8 0,.int .u8 0,.int .u8 0,.int .u8 0,.int .u8 0,.int .u8 0,.int .u8 0,.int .u8 0] 232)):=(Below.refl _ _).alloc (Nat.le_refl _) _
   go_loopw [21] (fun i w5=> ∃t:Nat,t≤8∧i= .int .i64 t∧Blk w5 wB.heap.size 232 (lcs m.length t)∧Below wB.heap.size wB w5) (fun i _=>8-(intOf i).toNat)
   case atStart=>exact⟨0,Z11,rfl,hl0,hg0⟩
   case round=>
    clear hl0 hg0
    obtain⟨t,ht,rfl,hl,hg⟩:=hrel
    by_cases hlt:t<8
    case pos=>
     have z0:=hl.cell t (lcs_at m.length t hlt)
     have z1:=hl.frozen t
     have e1:IntKind.i64.wrap (8*(t:Int))=8*(t:Int):=IntWalk.i64_in _ Z11
     have e2:IntKind.i64.wrap (56-8*(t:Int))=56-8*(t:Int):=IntWalk.i64_in _ Z11
     have e3:(0:Int)≤56-8*(t:Int):=by omega
     have e4:8*(t:Int)≤56:=by omega
     have e5:(56-8*(t:Int)).toNat=56-8*t:=by omega
     have e6:56-8*(t:Int)<64:=by omega
     have e7:(t:Int)<8:=by omega
     go_wp2_with fail
     go_roundw
     case rel=>exact⟨t+1,Z11,Z83,by rw[←lcs_set m.length t hlt _ (by rw[le8_at m.length t hlt hlen,HN8.out])];exact hl.set t _,hg.setCell (Nat.le_refl _) _⟩
     case measure=>simp[intOf];omega
    case neg=>
     have hl8:Blk wr wB.heap.size 232 (lcs m.length 8):=by rw[show 8=t from Z11];exact hl
     obtain⟨t2,ht2,ht3⟩: ∃x,x=t∧8≤x:=⟨t,rfl,Z11⟩
     subst ht2
     clear hl ht
     rw[lcs_full] at hl8
     have hss:=HSZ.out.below hg
     have hr9:=hr.below hg hr.lt
     have hb9:=hb.trans (hg.mono hb.size)
     have hlb:=HSZ.out.lt
     have hrd:=blk_rd hl8 8 (le8_len _)
     have hrd2:Rd wr 1 (.slice (some ⟨wB.heap.size,0,none⟩) (le8 m.length).length 8) (le8 m.length).length (Lib.byteCells (le8 m.length)):=by rw[le8_len];exact hrd
     have HW6:=write_any w.heap.size wB.heap.size 0 8 _ (le8 m.length) wr hss hrd2 (by rw[le8_len];decide) Z11 (by have h1:=HLl.out;rw[le8_len];simp[zs];omega)
     rw[le8_len] at HW6
     have HW:=Lib.hid HW6
     clear hss hrd hrd2 HW6 hl8 hr hb hg HSZ
     go_wp2_with fail
     refine HW.out.mono ?_
     rintro e w6 ⟨rfl,hs6,hg6⟩
     have hr6:=hr9.grown hg6 (fun r hr e=>by cases hr;omega)
     have hb6:Below w.heap.size w w6:=hb9.grown hg6 hb9.size (fun k e=>by cases e;omega)
     have hpad:m++128::List.replicate (zs m.length) 0++le8 m.length=padded m:=by unfold padded;simp
     rw[hpad] at hs6
     clear hr9 hb9 hg6 hpad HW
     obtain⟨rst,hsr6,hx6⟩:=hs6
     have hblk:blks Sh.h0 (padded m) ((padded m).length/64)=blks Sh.h0 (padded m) ((m.length+72)/64):=by rw[padded_len];congr 1;omega
     rw[hblk] at hx6
     have hsha:sha m=dig (blks Sh.h0 (padded m) ((m.length+72)/64)):=rfl
     have HSHA:=Lib.hid hsha
     clear hblk hsha hsr6
     generalize blks Sh.h0 (padded m) ((m.length+72)/64)=U at hx6 HSHA
     have s0:=(hx6.alloc (.cells #[.int .u8 0,.int .u8 0,.int .u8 0,.int .u8 0,.int .u8 0,.int .u8 0,.int .u8 0,.int .u8 0,.int .u8 0,.int .u8 0,.int .u8 0,.int .u8 0,.int .u8 0,.int .u8 0,.int .u8 0,.int .u8 0,.int .u8 0,.int .u8 0,.int .u8 0,.int .u8 0,.int .u8 0,.int .u8 0,.int .u8 0,.int .u8 0,.int .u8 0,.int .u8 0,.int .u8 0,.int .u8 0,.int .u8 0,.int .u8 0,.int .u8 0,.int .u8 0] 172)).cell 0 rfl
     have s1:=(hx6.alloc (.cells #[.int .u8 0,.int .u8 0,.int .u8 0,.int .u8 0,.int .u8 0,.int .u8 0,.int .u8 0,.int .u8 0,.int .u8 0,.int .u8 0,.int .u8 0,.int .u8 0,.int .u8 0,.int .u8 0,.int .u8 0,.int .u8 0,.int .u8 0,.int .u8 0,.int .u8 0,.int .u8 0,.int .u8 0,.int .u8 0,.int .u8 0,.int .u8 0,.int .u8 0,.int .u8 0,.int .u8 0,.int .u8 0,.int .u8 0,.int .u8 0,.int .u8 0,.int .u8 0] 172)).cell 1 rfl
     have s2:=(hx6.alloc (.cells #[.int .u8 0,.int .u8 0,.int .u8 0,.int .u8 0,.int .u8 0,.int .u8 0,.int .u8 0,.int .u8 0,.int .u8 0,.int .u8 0,.int .u8 0,.int .u8 0,.int .u8 0,.int .u8 0,.int .u8 0,.int .u8 0,.int .u8 0,.int .u8 0,.int .u8 0,.int .u8 0,.int .u8 0,.int .u8 0,.int .u8 0,.int .u8 0,.int .u8 0,.int .u8 0,.int .u8 0,.int .u8 0,.int .u8 0,.int .u8 0,.int .u8 0,.int .u8 0] 172)).cell 2 rfl
     have s3:=(hx6.alloc (.cells #[.int .u8 0,.int .u8 0,.int .u8 0,.int .u8 0,.int .u8 0,.int .u8 0,.int .u8 0,.int .u8 0,.int .u8 0,.int .u8 0,.int .u8 0,.int .u8 0,.int .u8 0,.int .u8 0,.int .u8 0,.int .u8 0,.int .u8 0,.int .u8 0,.int .u8 0,.int .u8 0,.int .u8 0,.int .u8 0,.int .u8 0,.int .u8 0,.int .u8 0,.int .u8 0,.int .u8 0,.int .u8 0,.int .u8 0,.int .u8 0,.int .u8 0,.int .u8 0] 172)).cell 3 rfl
     have s4:=(hx6.alloc (.cells #[.int .u8 0,.int .u8 0,.int .u8 0,.int .u8 0,.int .u8 0,.int .u8 0,.int .u8 0,.int .u8 0,.int .u8 0,.int .u8 0,.int .u8 0,.int .u8 0,.int .u8 0,.int .u8 0,.int .u8 0,.int .u8 0,.int .u8 0,.int .u8 0,.int .u8 0,.int .u8 0,.int .u8 0,.int .u8 0,.int .u8 0,.int .u8 0,.int .u8 0,.int .u8 0,.int .u8 0,.int .u8 0,.int .u8 0,.int .u8 0,.int .u8 0,.int .u8 0] 172)).cell 4 rfl
     have s5:=(hx6.alloc (.cells #[.int .u8 0,.int .u8 0,.int .u8 0,.int .u8 0,.int .u8 0,.int .u8 0,.int .u8 0,.int .u8 0,.int .u8 0,.int .u8 0,.int .u8 0,.int .u8 0,.int .u8 0,.int .u8 0,.int .u8 0,.int .u8 0,.int .u8 0,.int .u8 0,.int .u8 0,.int .u8 0,.int .u8 0,.int .u8 0,.int .u8 0,.int .u8 0,.int .u8 0,.int .u8 0,.int .u8 0,.int .u8 0,.int .u8 0,.int .u8 0,.int .u8 0,.int .u8 0] 172)).cell 5 rfl
     have s6:=(hx6.alloc (.cells #[.int .u8 0,.int .u8 0,.int .u8 0,.int .u8 0,.int .u8 0,.int .u8 0,.int .u8 0,.int .u8 0,.int .u8 0,.int .u8 0,.int .u8 0,.int .u8 0,.int .u8 0,.int .u8 0,.int .u8 0,.int .u8 0,.int .u8 0,.int .u8 0,.int .u8 0,.int .u8 0,.int .u8 0,.int .u8 0,.int .u8 0,.int .u8 0,.int .u8 0,.int .u8 0,.int .u8 0,.int .u8 0,.int .u8 0,.int .u8 0,.int .u8 0,.int .u8 0] 172)).cell 6 rfl
     have s7:=(hx6.alloc (.cells #[.int .u8 0,.int .u8 0,.int .u8 0,.int .u8 0,.int .u8 0,.int .u8 0,.int .u8 0,.int .u8 0,.int .u8 0,.int .u8 0,.int .u8 0,.int .u8 0,.int .u8 0,.int .u8 0,.int .u8 0,.int .u8 0,.int .u8 0,.int .u8 0,.int .u8 0,.int .u8 0,.int .u8 0,.int .u8 0,.int .u8 0,.int .u8 0,.int .u8 0,.int .u8 0,.int .u8 0,.int .u8 0,.int .u8 0,.int .u8 0,.int .u8 0,.int .u8 0] 172)).cell 7 rfl
     unfold uw at s0 s1 s2 s3 s4 s5 s6 s7
     have hd0:Blk (w6.alloc (.cells #[.int .u8 0,.int .u8 0,.int .u8 0,.int .u8 0,.int .u8 0,.int .u8 0,.int .u8 0,.int .u8 0,.int .u8 0,.int .u8 0,.int .u8 0,.int .u8 0,.int .u8 0,.int .u8 0,.int .u8 0,.int .u8 0,.int .u8 0,.int .u8 0,.int .u8 0,.int .u8 0,.int .u8 0,.int .u8 0,.int .u8 0,.int .u8 0,.int .u8 0,.int .u8 0,.int .u8 0,.int .u8 0,.int .u8 0,.int .u8 0,.int .u8 0,.int .u8 0] 172)) w6.heap.size 172 (dcs U 0):=Blk.new w6 _ _
     have hg0:Below w6.heap.size w6 (w6.alloc (.cells #[.int .u8 0,.int .u8 0,.int .u8 0,.int .u8 0,.int .u8 0,.int .u8 0,.int .u8 0,.int .u8 0,.int .u8 0,.int .u8 0,.int .u8 0,.int .u8 0,.int .u8 0,.int .u8 0,.int .u8 0,.int .u8 0,.int .u8 0,.int .u8 0,.int .u8 0,.int .u8 0,.int .u8 0,.int .u8 0,.int .u8 0,.int .u8 0,.int .u8 0,.int .u8 0,.int .u8 0,.int .u8 0,.int .u8 0,.int .u8 0,.int .u8 0,.int .u8 0] 172)):=(Below.refl _ _).alloc (Nat.le_refl _) _
     go_wp2_with fail
     clear s0 s1 s2 s3 s4 s5 s6 s7 hx6
     go_loopw [37] (fun i w7=> ∃t:Nat,t≤8∧i= .int .i64 t∧Blk w7 w6.heap.size 172 (dcs U t)∧Below w6.heap.size w6 w7) (fun i _=>8-(intOf i).toNat)
     case atStart=>exact⟨0,Z11,rfl,hd0,hg0⟩
     case round=>
      clear hd0 hg0
      obtain⟨t,ht,rfl,hd,hg⟩:=hrel
      by_cases hlt:t<8
      case pos=>
       have hix:=ix_word U t hlt
       have hset:=dcs_set U t hlt
       generalize U.l.getD t 0=x at hix hset
       rw[by_24,by_16,by_8,by_0] at hset
       have HSET:=Lib.hid hset
       have z0:=hd.cell (4*t+0) (dcs_at U t 0 hlt Z39)
       have z1:=hd.cell (4*t+1) (dcs_at U t 1 hlt Z39)
       have z2:=hd.cell (4*t+2) (dcs_at U t 2 hlt Z39)
       have z3:=hd.cell (4*t+3) (dcs_at U t 3 hlt Z39)
       have f0:=hd.frozen (4*t+0)
       have f1:=hd.frozen (4*t+1)
       have f2:=hd.frozen (4*t+2)
       have f3:=hd.frozen (4*t+3)
       rw[Nat.add_zero] at z0 f0
       have e0:IntKind.i64.wrap (4*(t:Int))=4*(t:Int):=IntWalk.i64_in _ Z11
       have e1:(0:Int)≤4*(t:Int):=by omega
       have e2:4*(t:Int)+3<32:=by omega
       have e3:(4*(t:Int)).toNat=4*t:=by omega
       have e4:(4*(t:Int)+1).toNat=4*t+1:=by omega
       have e5:(4*(t:Int)+2).toNat=4*t+2:=by omega
       have e6:(4*(t:Int)+3).toNat=4*t+3:=by omega
       have hxb:=u32_lt x
       have HD:=Lib.hid hd
       clear hset hd
       go_wp2_with fail
       go_roundw
       case rel=>exact⟨t+1,Z11,Z83,by rw[←HSET.out];exact(((HD.out.set _ _).set _ _).set _ _).set _ _,(((hg.setCell (Nat.le_refl _) _).setCell (Nat.le_refl _) _).setCell (Nat.le_refl _) _).setCell (Nat.le_refl _) _⟩
       case measure=>simp[intOf];omega
      case neg=>
       have hd8:Blk wr w6.heap.size 172 (dcs U 8):=by rw[show 8=t from Z11];exact hd
       rw[dcs_full] at hd8
       have hr9:=hr6.below hg hr6.lt
       have hb9:=hb6.trans (hg.mono hb6.size)
       have hl32:(Lib.byteCells (dig U)).length=32:=by rw[bc_length];rfl
       have hol:(List.replicate 32 (Value.int .u8 0)).length=(Lib.byteCells (dig U)).length:=by rw[hl32,List.length_replicate]
       have hsz:(Tryz.prog.info? 172).map (·.size)=some (Lib.byteCells (dig U)).length:=by rw[hl32];kernel_rfl
       have hsz2:(Tryz.prog.info? 172).map (·.size)=some (Lib.byteCells (dig U)).toArray.size:=by rw[List.size_toArray];exact hsz
       have HSZ:=Lib.hid (And.intro hol (And.intro hsz hsz2))
       clear hol hsz hsz2 hl32
       clear hd hg hr6 hb6
       go_wp2_with (first|(with_reducible refine wpList_load_blk rfl 172 (.tmp 6) rfl w6.heap.size rfl 172 (Lib.byteCells (dig U)) _ hd8 Tryz.underlying172 rfl HSZ.out.2.1 ?_)|(with_reducible refine wpList_store_blk rfl 172 (.tmp 2) (.tmp 68) rfl (w.heap.size+1) (Lib.byteCells (dig U)) rfl rfl 172 _ hr9 HSZ.out.2.1 HSZ.out.1 (byte_one _) ?_))
       intro wC hxC hgC
       have hbC:Below w.heap.size w wC:=hb9.grown hgC hb9.size (fun k e=>by cases e;omega)
       clear hgC hd8 hr9 hb9
       go_wp2_with fail
       try simp only[Exit.inBlock,Exit.then]
       refine bodyPost_ret (results_cell_row rfl _ _ (w.heap.size+1) 172 (Lib.byteCells (dig U)).toArray (0,0) _ rfl hxC Tryz.underlying172 rfl HSZ.out.2.2) rfl ?_
       exact⟨by rw[HSHA.out],hbC⟩
end Go.Proofs.YtdmjegelcdghlaaGreat
