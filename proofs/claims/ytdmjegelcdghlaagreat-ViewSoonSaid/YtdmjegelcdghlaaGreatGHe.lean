/-
  Chapter 3: bytes are written (the program's). Condition: all bytes together are fewer than 2^60.
-/
import Derived.Laws.CopyOwn
import Derived.RegionTactic
import Derived.BigRegion
import Derived.Test.YtdmjegelcdghlaaGreatGHc
import Derived.Test.YtdmjegelcdghlaaGreatGHa
set_option maxRecDepth 100000
set_option maxHeartbeats 64000000
set_option linter.unusedVariables false
set_option linter.unusedSimpArgs false
namespace Go.Proofs.YtdmjegelcdghlaaGreat
theorem Z224 {p:Prop}(h:p:=by rw[HMN.out,←HA0.out,List.length_append,HSL.out,HMN.out];have e:=hx7;rw[HMN.out] at e;exact e):p:=h
theorem Z222 {p:Prop}(h:p:=by rw[HMN.out,←HA0.out,List.length_append,HSL.out,HMN.out];have e:=HX6.out;rw[HMN.out] at e;exact e):p:=h
theorem Z215 {p:Prop}(h:p:=by cases hr;have:=hs0.lt;have:=hg0.size;omega):p:=h
theorem Z212 {p:Prop}(h:p:=by rw[show b.length-(k+cm)=n-cm from by omega]):p:=h
theorem Z207 {p:Prop}(h:p:=by rw[HTK.out,←List.append_assoc,←HM.out];exact hss):p:=h
theorem Z138 {p:Prop}(h:p:=by exact⟨rfl,rfl,rfl,by simp[World.setRow],fun k hk hne=>setRow_other w g k _ (fun e=>hne (by rw[e]))⟩):p:=h
theorem Z132 {p:Prop}(h:p:=by rw[bc_length];omega):p:=h
theorem Z119 {p:Prop}(h:p:=by
 have:=ss_block hsr HM0.out HK1.out.2.1 HX4.out
 rw[HMN.out] at this
 rw[HTK.out,←List.append_assoc,←HM.out];exact this):p:=h
theorem Z9 {p:Prop}(h:p:=by
 clear h0 h64
 go_wp2_with (with_reducible refine wpList_copy_grow rfl (.tmp 42) (.tmp 43) 156 156 rfl 5 Tryz.underlying156 (by kernel_rfl) sb (8+a0) (64-a0) (64-a0) ⟨bb,off+k,none⟩ n c rfl rfl _ _ hx cs HCP.out.2.2.2 HCP.out.1 HCP.out.2.2.1 HCP.out.2.1 ?_)
 intro w5 hx5 hg5
 rw[HSP.out] at hx5
 have HMN:Hid (M.length=N):=Lib.hid HNe.out.symm
 have SRov:Hid ((ov rest a0 seg).length=64):=Lib.hid (by rw[ov_len _ _ _ (by rw[HSL.out];omega)];exact hr64)
 have cn5:w5.cell? ⟨sb,72,none⟩=some (.int .i64 (N:Int)):=by have:=hx5.cell 72 (at72 _ _ _ rfl SRov.out);rw[HMN.out] at this;exact this
 have fn5:=hx5.frozen 72
 have HX5:=Lib.hid hx5
 have e1:IntKind.i64.wrap ((N:Int)+(cm:Int))=(N:Int)+(cm:Int):=IntWalk.i64_in _ (by omega)
 have hci:(cm:Int)≤(n:Int):=by omega
 have hnc:(n:Int)≤(c:Int):=by omega
 have hci2:(cm:Int)≤(c:Int):=by omega
 clear hx hx5 cn fn b0
 by_cases hcc:c=cm
 case pos=>
  go_wp2_with fail
  go_region
  have HX6:Hid (Blk ((w5.setCell ⟨sb,72,none⟩ (.int .i64 ((N:Int)+(cm:Int)))).drew) sb 219 ((blks Sh.h0 M (M.length/64)).l.map uw++(Lib.byteCells (ov rest a0 seg)++ [.int .i64 (((N+cm:Nat)):Int)]))):=Lib.hid (by
   have e:=blk_drew (HX5.out.set 72 (.int .i64 ((N:Int)+(cm:Int))))
   rw[set72 _ _ _ _ rfl SRov.out] at e
   exact e)
  have hg6:=gr_drew (gr_set hg5 72 (.int .i64 ((N:Int)+(cm:Int))))
  have cn6:((w5.setCell ⟨sb,72,none⟩ (.int .i64 ((N:Int)+(cm:Int)))).drew).cell? ⟨sb,72,none⟩=some (.int .i64 ((N:Int)+(cm:Int))):=by
   have e:=HX6.out.cell 72 (at72 _ _ _ rfl SRov.out)
   exact e
  clear cn5 fn5 hg5 e1
  generalize (w5.setCell ⟨sb,72,none⟩ (.int .i64 ((N:Int)+(cm:Int)))).drew=w6 at HX6 hg6 cn6⊢
  by_cases hf:a0+cm=64
  ·have bf:(((N:Int)+(cm:Int))% 64==0)=true:=by rw[beq_iff_eq];have:=HA0.out;omega
   have HF:=Lib.hid hf
   have hr5:=rest_rd HX6.out rfl (SRov.out)
   have hk6:=HKK.out.grown hg6 (fun r hr e=>Z215)
   have HR5:=Lib.hid (And.intro hr5 hk6)
   clear hf hr5 hk6
   go_wp2_with fail
   refine(take_any sb w.heap.size sb 8 64 _ _ _ _ HX6.out HR5.out.2 HR5.out.1 SRov.out).mono ?_
   rintro e w7 ⟨rfl,hx7,hg7⟩
   have hg8:=gg_trans hg6 hg7
   have hss:=ss_full (seg:=seg) hsr (by rw[HMN.out,HSL.out,←HA0.out];exact HF.out) Z224
   clear hg6 hg7 hx7
   go_wp2_with fail
   go_roundw
   case rel=>
    have hn':=HN.out
    refine⟨k+cm,_,_,by omega,Z212,Lib.hid fun h=> ?_,Z207,gg_trans hg hg8⟩
    omega
   case measure=>simp[slLen];omega
  ·have bf:(((N:Int)+(cm:Int))% 64==0)=false:=by rw[beq_eq_false_iff_ne];have:=HA0.out;omega
   have hss:=ss_part (seg:=seg) hsr (by rw[HMN.out,HSL.out,←HA0.out];omega) Z222
   clear hf
   go_wp2_with fail
   go_roundw
   case rel=>
    have hn':=HN.out
    refine⟨k+cm,_,_,by omega,Z212,Lib.hid fun h=> ?_,Z207,gg_trans hg hg6⟩
    omega
   case measure=>simp[slLen];omega
 case neg=>
  go_wp2_with fail
  go_region
  have HX6:Hid (Blk ((w5.setCell ⟨sb,72,none⟩ (.int .i64 ((N:Int)+(cm:Int)))).drew) sb 219 ((blks Sh.h0 M (M.length/64)).l.map uw++(Lib.byteCells (ov rest a0 seg)++ [.int .i64 (((N+cm:Nat)):Int)]))):=Lib.hid (by
   have e:=blk_drew (HX5.out.set 72 (.int .i64 ((N:Int)+(cm:Int))))
   rw[set72 _ _ _ _ rfl SRov.out] at e
   exact e)
  have hg6:=gr_drew (gr_set hg5 72 (.int .i64 ((N:Int)+(cm:Int))))
  have cn6:((w5.setCell ⟨sb,72,none⟩ (.int .i64 ((N:Int)+(cm:Int)))).drew).cell? ⟨sb,72,none⟩=some (.int .i64 ((N:Int)+(cm:Int))):=by
   have e:=HX6.out.cell 72 (at72 _ _ _ rfl SRov.out)
   exact e
  clear cn5 fn5 hg5 e1
  generalize (w5.setCell ⟨sb,72,none⟩ (.int .i64 ((N:Int)+(cm:Int)))).drew=w6 at HX6 hg6 cn6⊢
  by_cases hf:a0+cm=64
  ·have bf:(((N:Int)+(cm:Int))% 64==0)=true:=by rw[beq_iff_eq];have:=HA0.out;omega
   have HF:=Lib.hid hf
   have hr5:=rest_rd HX6.out rfl (SRov.out)
   have hk6:=HKK.out.grown hg6 (fun r hr e=>Z215)
   have HR5:=Lib.hid (And.intro hr5 hk6)
   clear hf hr5 hk6
   go_wp2_with fail
   refine(take_any sb w.heap.size sb 8 64 _ _ _ _ HX6.out HR5.out.2 HR5.out.1 SRov.out).mono ?_
   rintro e w7 ⟨rfl,hx7,hg7⟩
   have hg8:=gg_trans hg6 hg7
   have hss:=ss_full (seg:=seg) hsr (by rw[HMN.out,HSL.out,←HA0.out];exact HF.out) Z224
   clear hg6 hg7 hx7
   go_wp2_with fail
   go_roundw
   case rel=>
    have hn':=HN.out
    refine⟨k+cm,_,_,by omega,Z212,Lib.hid fun h=> ?_,Z207,gg_trans hg hg8⟩
    exact⟨by rw[Nat.add_assoc],by omega⟩
   case measure=>simp[slLen];omega
  ·have bf:(((N:Int)+(cm:Int))% 64==0)=false:=by rw[beq_eq_false_iff_ne];have:=HA0.out;omega
   have hss:=ss_part (seg:=seg) hsr (by rw[HMN.out,HSL.out,←HA0.out];omega) Z222
   clear hf
   go_wp2_with fail
   go_roundw
   case rel=>
    have hn':=HN.out
    refine⟨k+cm,_,_,by omega,Z212,Lib.hid fun h=> ?_,Z207,gg_trans hg hg6⟩
    exact⟨by rw[Nat.add_assoc],by omega⟩
   case measure=>simp[slLen];omega):p:=h
open Go.RowKit Sh
def SS (W:World)(sb:Nat)(m:By):Prop:= ∃rest,SR m rest∧Blk W sb 219 ((blks h0 m (m.length/64)).l.map uw++(Lib.byteCells rest++ [.int .i64 (m.length:Int)]))
theorem SS.lt {W:World}{sb:Nat}{m:By}(h:SS W sb m):sb<W.heap.size:=by obtain⟨_,_,h⟩:=h;exact h.lt
theorem SS.below {W W':World}{sb:Nat}{m:By}(h:SS W sb m)(hb:Below W.heap.size W W'):SS W' sb m:=by
 obtain⟨r,h1,h2⟩:=h;exact⟨r,h1,h2.below hb h2.lt⟩
theorem wpList_copy_grow {P:Program}{w:World}{ops:Array Oper}{rest:List Oper}{o:Oper}{a:Act}{Q:Exit→Act→World→Prop}(hgd:o.guard=none)(d s:Operand)(dT sT:TypeId)
 (ho:o.op= .call {callee:= .builtin .copy,args:= #[d,s],argTypes:= #[dT,sT] }) (elem:TypeId) (hu:P.underlying dT=some (.slice elem)) (hsz:(P.info? elem).map (·.size)=some 1)
 (g off dLen dCap:Nat) (ad:Addr) (sLen sCap:Nat) (hd:a.eval d= .slice (some ⟨g,off,none⟩) dLen dCap) (hs:a.eval s= .slice (some ad) sLen sCap)
 (cur:List Value) (t:TypeId) (hg:Blk w g t cur) (cs:List Value) (hn:cs.length=Nat.min sLen dLen)
 (hsrc: ∀j v,cs[j]?=some v→w.cell? (ad.add j)=some v) (hfit:off+cs.length≤cur.length) (h1: ∀v∈cs,v.oneCell'=true)
 (h: ∀w',Blk w' g t (splice cur off cs)→w.grownBy w' (some g)→wpList P ops Q rest (a.put o.dst (goInt cs.length)) w'):wpList P ops Q (o::rest) a w:=by
 refine wpList_copy_own hgd d s dT sT ho elem hu hsz g off dLen dCap ad sLen sCap hd hs cur.toArray t hg cs hn hsrc (by simpa using hfit) h1 ?_
 refine h _ ?_ ?_
 ·show _=_
  have:=setRow_heap w g _ (splice cur off cs).toArray t _ hg
  simpa[splice] using this
 ·exact Z138
theorem gg_trans {w a c:World}{b:Nat}(h:w.grownBy a (some b))(k:a.grownBy c (some b)):w.grownBy c (some b):=
 ⟨k.os.trans h.os,k.tape.trans h.tape,k.output.trans h.output,Nat.le_trans h.size k.size,fun x hx hne=>(k.block x (Nat.lt_of_lt_of_le hx h.size) hne).trans (h.block x hx hne)⟩
theorem grown_cell {w a:World}{g b o:Nat}(h:w.grownBy a (some g))(hb:b<w.heap.size)(hne:b≠g):a.cell? ⟨b,o,none⟩=w.cell? ⟨b,o,none⟩:=by
 have:=h.block b hb (fun e=>hne (by simpa using e))
 unfold World.cell?
 simp only[this]
theorem rd_cut {w wr:World}{sb bb off cap:Nat}{b:By}(h:Rd w 1 (.slice (some ⟨bb,off,none⟩) b.length cap) b.length (Lib.byteCells b))(hg:w.grownBy wr (some sb))(hne:bb≠sb)(hbb:bb<w.heap.size)(k n c:Nat)(hk:k+n≤b.length)(hc:n≤c):
 Rd wr 1 (.slice (some ⟨bb,off+k,none⟩) n c) n (Lib.byteCells ((b.drop k).take n)):=by
 refine⟨by rw[bc_length,List.length_take,List.length_drop];omega,.inr ⟨bb,off+k,c,rfl,hc,fun j u hj=> ?_⟩⟩
 rw[grown_cell hg hbb hne]
 have hj2:=(List.getElem?_eq_some_iff.1 hj).1
 rw[bc_length,List.length_take,List.length_drop] at hj2
 rcases h.2 with⟨_,h0⟩|⟨b',o',c',e,_,hcs⟩
 ·omega
 ·cases e
  rw[Nat.add_assoc]
  refine hcs (k+j) u ?_
  unfold Lib.byteCells at hj⊢
  rw[List.getElem?_map,List.getElem?_take_of_lt Z11,List.getElem?_drop] at hj
  rw[List.getElem?_map]
  exact hj
theorem set72 (x:List Value)(rest:By)(a b:Value)(hx:x.length=8)(hr:rest.length=64):(x++(Lib.byteCells rest++ [a])).set 72 b=x++(Lib.byteCells rest++ [b]):=by
 rw[List.set_append_right _ _ Z11,List.set_append_right _ _ Z132,bc_length,hx,hr]
 rfl
theorem at72 (x:List Value)(rest:By)(a:Value)(hx:x.length=8)(hr:rest.length=64):(x++(Lib.byteCells rest++ [a]))[72]?=some a:=by
 rw[List.getElem?_append_right Z11,List.getElem?_append_right Z132,bc_length,hx,hr]
 rfl
theorem blk_drew {W:World}{b:Nat}{t:TypeId}{cs:List Value}(h:Blk W b t cs):Blk W.drew b t cs:=h
theorem ss_block {W:World}{sb:Nat}{M seg rest:By}(hsr:SR M rest)(h0:M.length % 64=0)(hs:seg.length=64)(hx:Blk W sb 219 ((tk (blks Sh.h0 M (M.length/64)) seg).l.map uw++(Lib.byteCells rest++ [.int .i64 (M.length:Int)]))):
 SS ((W.setCell ⟨sb,72,none⟩ (.int .i64 ((M.length:Int)+64))).drew) sb (M++seg):=by
 have hb:=hsr.block h0 hs
 refine⟨rest,hb.1,?_⟩
 rw[hb.2]
 have:=blk_drew (hx.set 72 (.int .i64 ((M.length:Int)+64)))
 rw[set72 _ _ _ _ rfl hsr.1] at this
 rw[show(((M++seg).length:Nat):Int)=(M.length:Int)+64 from by rw[List.length_append,hs];rfl]
 exact this
theorem splice_rest (x:List Value)(rest seg:By)(a:Value)(n:Nat)(hx:x.length=8)(hr:rest.length=64)(hn:n+seg.length≤64):
 splice (x++(Lib.byteCells rest++ [a])) (8+n) (Lib.byteCells seg)=x++(Lib.byteCells (ov rest n seg)++ [a]):=by
 unfold splice ov
 rw[←hx,bc_append,bc_append,bc_length,show x.length+n+seg.length=x.length+(n+seg.length) from Z11,List.take_length_add_append,List.drop_length_add_append]
 rw[List.take_append_of_le_length Z132,List.drop_append_of_le_length Z132]
 simp only[Lib.byteCells,List.map_take,List.map_drop,List.append_assoc]
theorem rest_rd {W:World}{sb:Nat}{x:List Value}{rest:By}{a:Value}(h:Blk W sb 219 (x++(Lib.byteCells rest++ [a])))(hx:x.length=8)(hr:rest.length=64):Rd W 1 (.slice (some ⟨sb,8,none⟩) 64 64) 64 (Lib.byteCells rest):=by
 refine⟨Z132,.inr ⟨sb,8,64,rfl,Nat.le_refl _,fun j u hj=>h.cell (8+j) ?_⟩⟩
 have hj2:=(List.getElem?_eq_some_iff.1 hj).1
 rw[List.getElem?_append_right Z11,hx,show 8+j-8=j from Z11,List.getElem?_append_left hj2]
 exact hj
theorem ss_part {W:World}{sb:Nat}{M seg rest:By}(hsr:SR M rest)(hs:M.length % 64+seg.length<64)(hx:Blk W sb 219 ((blks Sh.h0 M (M.length/64)).l.map uw++(Lib.byteCells (ov rest (M.length % 64) seg)++ [.int .i64 (((M++seg).length:Nat):Int)]))):
 SS W sb (M++seg):=by
 have hb:=hsr.part hs
 refine⟨_,hb.1,?_⟩
 rw[hb.2];exact hx
theorem ss_full {W:World}{sb:Nat}{M seg rest:By}(hsr:SR M rest)(hs:M.length % 64+seg.length=64)(hx:Blk W sb 219 ((tk (blks Sh.h0 M (M.length/64)) (ov rest (M.length % 64) seg)).l.map uw++(Lib.byteCells (ov rest (M.length % 64) seg)++ [.int .i64 (((M++seg).length:Nat):Int)]))):
 SS W sb (M++seg):=by
 have hb:=hsr.full hs
 refine⟨_,hb.1,?_⟩
 rw[hb.2];exact hx
def slLen:Value→Nat
 | .slice _ n _=>n
 |_=>0
theorem constants_any (w:World):Calls Tryz.prog 199 #[] w fun e w'=>e= .returned (.pointer (some ⟨w.heap.size,0,none⟩))∧w'=w.alloc (.cells (ks.map uw).toArray 234):=by
 go_enter Tryz.func199,Tryz.ntmps199
 have hk:(ks.map uw).toArray= #[.int .u32 1116352408,.int .u32 1899447441,.int .u32 3049323471,.int .u32 3921009573,.int .u32 961987163,.int .u32 1508970993,.int .u32 2453635748,.int .u32 2870763221,.int .u32 3624381080,.int .u32 310598401,.int .u32 607225278,.int .u32 1426881987,.int .u32 1925078388,.int .u32 2162078206,.int .u32 2614888103,.int .u32 3248222580,.int .u32 3835390401,.int .u32 4022224774,.int .u32 264347078,.int .u32 604807628,.int .u32 770255983,.int .u32 1249150122,.int .u32 1555081692,.int .u32 1996064986,.int .u32 2554220882,.int .u32 2821834349,.int .u32 2952996808,.int .u32 3210313671,.int .u32 3336571891,.int .u32 3584528711,.int .u32 113926993,.int .u32 338241895,.int .u32 666307205,.int .u32 773529912,.int .u32 1294757372,.int .u32 1396182291,.int .u32 1695183700,.int .u32 1986661051,.int .u32 2177026350,.int .u32 2456956037,.int .u32 2730485921,.int .u32 2820302411,.int .u32 3259730800,.int .u32 3345764771,.int .u32 3516065817,.int .u32 3600352804,.int .u32 4094571909,.int .u32 275423344,.int .u32 430227734,.int .u32 506948616,.int .u32 659060556,.int .u32 883997877,.int .u32 958139571,.int .u32 1322822218,.int .u32 1537002063,.int .u32 1747873779,.int .u32 1955562222,.int .u32 2024104815,.int .u32 2227730452,.int .u32 2361852424,.int .u32 2428436474,.int .u32 2756734187,.int .u32 3204031479,.int .u32 3329325298]:=by kernel_rfl
 rw[hk]
 clear hk
 go_wp2
 go_ret
 exact⟨rfl,rfl⟩
theorem write_any (sb bb off cap:Nat)(m b:By)(w:World)(hs:SS w sb m)(hb:Rd w 1 (.slice (some ⟨bb,off,none⟩) b.length cap) b.length (Lib.byteCells b))(hcap:b.length≤cap)(hne:bb≠sb)(hlen:m.length+b.length≤1152921504606846976):
 Calls Tryz.prog 189 #[.pointer (some ⟨sb,0,none⟩),.slice (some ⟨bb,off,none⟩) b.length cap] w fun e w'=>e= .returned (.tuple #[])∧SS w' sb (m++b)∧w.grownBy w' (some sb):=by
 have hlt:=hs.lt
 have HB:=Lib.hid hb
 have hK:Blk (w.alloc (.cells (ks.map uw).toArray 234)) w.heap.size 234 (ks.map uw):=Blk.new w _ _
 have hb0:Below w.heap.size w (w.alloc (.cells (ks.map uw).toArray 234)):=(Below.refl _ _).alloc (Nat.le_refl _) _
 have hs0:=hs.below hb0
 have hg0:w.grownBy (w.alloc (.cells (ks.map uw).toArray 234)) (some sb):=⟨hb0.os,hb0.tape,hb0.output,hb0.size,fun k hk _=>hb0.block k hk⟩
 clear hb hs hb0
 go_enter Tryz.func189,Tryz.ntmps189
 go_wp2_with fail
 refine(constants_any _).mono ?_
 rintro e w1 ⟨rfl,rfl⟩
 have hbb:bb<w.heap.size∨b.length=0:=by
  rcases HB.out.2 with⟨_,h0⟩|⟨b',o',c',e,_,hc⟩
  ·exact .inr h0
  ·cases e
   rcases Nat.eq_zero_or_pos b.length with h0|h0
   ·exact .inr h0
   ·refine .inl (World.block_lt_of_cell? w _ (hc 0 (.int .u8 ((b.getD 0 0).toNat:Int)) ?_))
    simp[Lib.byteCells,List.getD,h0]
 generalize hw1:w.alloc (.cells (ks.map uw).toArray 234)=w1 at hK hs0 hg0⊢
 clear hw1
 go_wp2_with fail
 go_loopw [1] (fun v wr=> ∃(k:Nat) (a:Option Addr) (c:Nat),k≤b.length∧v= .slice a (b.length-k) c∧Hid (k<b.length→a=some ⟨bb,off+k,none⟩∧b.length-k≤c)∧SS wr sb (m++b.take k)∧w1.grownBy wr (some sb)) (fun v _=>slLen v)
 case atStart=>exact⟨0,_,_,Z11,rfl,Lib.hid fun _=>⟨rfl,hcap⟩,by simpa using hs0,World.grownBy.refl _ _⟩
 case round=>
  obtain⟨k,a,c,hk,rfl,HA,hss,hg⟩:=hrel
  by_cases hlt:k<b.length
  case pos=>
   obtain⟨rfl,hc⟩:=HA.out hlt
   clear HA
   obtain⟨rest,hsr,hx⟩:=hss
   have hMl:(m++b.take k).length=m.length+k:=by simp;omega
   obtain⟨M,hM⟩: ∃M,M=m++b.take k:=⟨_,rfl⟩
   rw[←hM] at hsr hx hMl
   have hr64:=hsr.1
   have cn:wr.cell? ⟨sb,72,none⟩=some (.int .i64 (M.length:Int)):=hx.cell 72 (at72 _ _ _ rfl hr64)
   have fn:=hx.frozen 72
   obtain⟨n,hn⟩: ∃n,n=b.length-k:=⟨_,rfl⟩
   rw[←hn] at hc⊢
   have hn0:0<n:=by omega
   have hn1:n≤1152921504606846976:=by omega
   have hN1:M.length≤1152921504606846976:=by omega
   have HM:=Lib.hid hM
   have HMl:=Lib.hid hMl
   have HN:=Lib.hid hn
   clear hM hMl hn
   obtain⟨N,hNe⟩: ∃N,N=M.length:=⟨_,rfl⟩
   rw[←hNe] at cn hN1
   have HNe:=Lib.hid hNe
   clear hNe
   by_cases h64:N % 64=0∧64≤n
   case pos=>
    obtain⟨h0,hn64⟩:=h64
    have b0:((N:Int)% 64==0)=true:=by rw[beq_iff_eq];omega
    have hbb2:bb<w.heap.size:=by have:=HN.out;rcases hbb with h|h;exact h;omega
    have hseg:=rd_cut HB.out (gg_trans hg0 hg) hne hbb2 k 64 c (by have:=HN.out;omega) Z11
    have hsl:((b.drop k).take 64).length=64:=by have:=HN.out;rw[List.length_take,List.length_drop];omega
    have hkk:=hK.grown hg (fun r hr e=>Z215)
    have HK1:=Lib.hid (And.intro hseg (And.intro hsl hkk))
    clear hseg hsl hkk
    go_wp2_with fail
    refine(take_any sb w.heap.size bb (off+k) c _ _ _ _ hx HK1.out.2.2 HK1.out.1 HK1.out.2.1).mono ?_
    rintro e w4 ⟨rfl,hx4,hg4⟩
    clear cn fn
    have HMN:Hid (M.length=N):=Lib.hid HNe.out.symm
    have cn:w4.cell? ⟨sb,72,none⟩=some (.int .i64 (N:Int)):=by have:=hx4.cell 72 (at72 _ _ _ rfl hr64);rw[HMN.out] at this;exact this
    have fn:=hx4.frozen 72
    have HX4:=Lib.hid hx4
    have e1:IntKind.i64.wrap ((N:Int)+64)=(N:Int)+64:=IntWalk.i64_in _ Z11
    clear hx hx4
    have hgg:=gg_trans hg hg4
    have hTK:b.take (k+64)=b.take k++(b.drop k).take 64:=List.take_add
    have HTK:=Lib.hid hTK
    have hM0:M.length % 64=0:=by rw[HMN.out];exact h0
    have HM0:=Lib.hid hM0
    clear hTK hM0 hg hg4 h0 b0
    by_cases hcc:c=64
    case pos=>
     go_wp2_with fail
     go_region
     go_wp2_with fail
     go_roundw
     case rel=>
      have hn':=HN.out
      refine⟨k+64,_,_,Z11,by rw[show b.length-(k+64)=n-64 from Z11],Lib.hid fun h=>Z11,?_,gr_drew (gr_set hgg 72 _)⟩
      exact Z119
     case measure=>simp[slLen];omega
    case neg=>
     go_wp2_with fail
     go_region
     go_wp2_with fail
     go_roundw
     case rel=>
      have hn':=HN.out
      refine⟨k+64,_,_,Z11,by rw[show b.length-(k+64)=n-64 from Z11],Lib.hid fun h=>⟨by rw[Nat.add_assoc],Z11⟩,?_,gr_drew (gr_set hgg 72 _)⟩
      exact Z119
     case measure=>simp[slLen];omega
   case neg=>
    obtain⟨a0,ha0⟩: ∃a0,a0=N % 64:=⟨_,rfl⟩
    have hat:(N:Int)% 64=(a0:Int):=by omega
    have ha64:a0<64:=by omega
    have hbb2:bb<w.heap.size:=by have:=HN.out;rcases hbb with h|h;exact h;omega
    have hkk:=hK.grown hg (fun r hr e=>Z215)
    have HKK:=Lib.hid hkk
    obtain⟨cm,hcm⟩: ∃cm,cm=Nat.min n (64-a0):=⟨_,rfl⟩
    have hcm1:0<cm:=by rw[hcm];exact Nat.lt_min.2 ⟨hn0,Z11⟩
    have hcm2:cm≤n:=by rw[hcm];exact Nat.min_le_left _ _
    have hcm4:cm≤64-a0:=by rw[hcm];exact Nat.min_le_right _ _
    have hcm3:a0+cm≤64:=by omega
    have hseg:=rd_cut HB.out (gg_trans hg0 hg) hne hbb2 k cm c (by have:=HN.out;omega) Z11
    have hsl:((b.drop k).take cm).length=cm:=by have:=HN.out;rw[List.length_take,List.length_drop];omega
    obtain⟨seg,hsg⟩: ∃seg,seg=(b.drop k).take cm:=⟨_,rfl⟩
    have hTK:b.take (k+cm)=b.take k++seg:=by rw[hsg];exact List.take_add
    rw[←hsg] at hsl hseg
    obtain⟨cs,hcs⟩: ∃cs,cs=Lib.byteCells seg:=⟨_,rfl⟩
    have hcl:cs.length=cm:=by rw[hcs,bc_length,hsl]
    have hsrc: ∀j v,cs[j]?=some v→wr.cell? ((⟨bb,off+k,none⟩:Addr).add j)=some v:=by
     rw[←hcs] at hseg
     rcases hseg.2 with⟨_,h0⟩|⟨b',o',c',e,_,hc'⟩
     ·omega
     ·cases e;intro j v hj;rw[Addr.add_lit];exact hc' j v hj
    have hspl:splice ((blks Sh.h0 M (M.length/64)).l.map uw++(Lib.byteCells rest++ [.int .i64 (M.length:Int)])) (8+a0) cs=(blks Sh.h0 M (M.length/64)).l.map uw++(Lib.byteCells (ov rest a0 seg)++ [.int .i64 (M.length:Int)]):=by
     rw[hcs];exact splice_rest _ _ _ _ _ rfl hr64 Z11
    have hone: ∀v∈cs,v.oneCell'=true:=by rw[hcs];exact byte_one _
    have hfit:8+a0+cs.length≤((blks Sh.h0 M (M.length/64)).l.map uw++(Lib.byteCells rest++ [Value.int .i64 (M.length:Int)])).length:=by
     rw[List.length_append,List.length_append,bc_length,hr64,hcl];simp[Oct.l];omega
    have hmin:cs.length=Nat.min n (64-a0):=by rw[hcl,hcm]
    have l64:(a0:Int)≤64:=by omega
    have l64b:(a0:Int)<64:=by omega
    have g64: ¬64≤a0:=by omega
    have HCP:=Lib.hid (And.intro hsrc (And.intro hone (And.intro hfit hmin)))
    have HSP:=Lib.hid hspl
    have HSL:=Lib.hid hsl
    have HTK:=Lib.hid hTK
    have HA0:=Lib.hid ha0
    clear hkk hseg hsl hsg hTK hcs hsrc hspl hone hfit hmin hcm ha0
    by_cases h0:a0=0
    case pos=>
     have b0:((a0:Int)==0)=true:=by rw[h0];rfl
     have H0:=Lib.hid h0
     have hn64: ¬(64:Int)≤(n:Int):=by have:=HA0.out;omega
     exact Z9
    case neg=>
     have b0:((a0:Int)==0)=false:=by rw[beq_eq_false_iff_ne];omega
     exact Z9
  case neg=>
   have hk2:b.length-k=0:=by omega
   have htk:b.take k=b:=List.take_of_length_le Z11
   rw[htk] at hss
   have HK2:=Lib.hid hk2
   rw[hk2]
   clear hk2 htk HA
   go_wp2_with fail
   try simp only[Exit.inBlock,Exit.then]
   go_end0
   exact⟨rfl,hss,gg_trans hg0 hg⟩
end Go.Proofs.YtdmjegelcdghlaaGreat
