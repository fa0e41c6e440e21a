/-
  Chapter 3, plain: words of 32 bits, how they are turned, the schedule, the rounds, what a text's digest is. No program here.
-/
import Derived.Test.YtdmjegelcdghlaaGreatChecked
import Derived.Tactics
import Derived.Tactics2
import Derived.IntWalk
import Derived.Lib.EndianBits
import Derived.Test.YtdmjegelcdghlaaGreatGGen
set_option maxRecDepth 100000
set_option maxHeartbeats 64000000
set_option linter.unusedVariables false
set_option linter.unusedSimpArgs false
namespace Go.Proofs.YtdmjegelcdghlaaGreat
theorem Z15 {p:Prop}(h:p:=by omega):p:=h
end Go.Proofs.YtdmjegelcdghlaaGreat
namespace Go.Proofs.YtdmjegelcdghlaaGreat.Sh
abbrev By:=List UInt8
def rot (x:UInt32)(n:Nat):UInt32:=UInt32.ofNat (x.toNat/2^n+x.toNat % 2^n*2^(32-n))
def dn (x:UInt32)(n:Nat):UInt32:=UInt32.ofNat (x.toNat/2^n)
theorem rot_lt (x n:Nat)(hx:x<4294967296)(hn:n≤32):x/2^n+x % 2^n*2^(32-n)<4294967296:=by
 have h2:(2:Nat)^n*2^(32-n)=4294967296:=by rw[←Nat.pow_add,show n+(32-n)=32 from Z15]
 have h3:x/2^n<2^(32-n):=by
  rw[Nat.div_lt_iff_lt_mul (Nat.two_pow_pos n),Nat.mul_comm,h2];exact hx
 have h4:x % 2^n<2^n:=Nat.mod_lt _ (Nat.two_pow_pos n)
 calc x/2^n+x % 2^n*2^(32-n)<2^(32-n)+x % 2^n*2^(32-n):=by omega
  _=(x % 2^n+1)*2^(32-n):=by rw[Nat.add_mul,Nat.one_mul,Nat.add_comm]
  _≤2^n*2^(32-n):=Nat.mul_le_mul_right _ Z15
  _=4294967296:=h2
theorem rot_nat (x:UInt32)(n:Nat)(hn:n≤32):(rot x n).toNat=x.toNat/2^n+x.toNat % 2^n*2^(32-n):=by
 unfold rot
 rw[UInt32.toNat_ofNat']
 exact Nat.mod_eq_of_lt (rot_lt _ _ x.toNat_lt hn)
theorem dn_nat (x:UInt32)(n:Nat):(dn x n).toNat=x.toNat/2^n:=by
 unfold dn
 rw[UInt32.toNat_ofNat']
 exact Nat.mod_eq_of_lt (Nat.lt_of_le_of_lt (Nat.div_le_self _ _) x.toNat_lt)
def S0 (x:UInt32):UInt32:=rot x 2^^^rot x 13^^^rot x 22
def S1 (x:UInt32):UInt32:=rot x 6^^^rot x 11^^^rot x 25
def s0 (x:UInt32):UInt32:=rot x 7^^^rot x 18^^^dn x 3
def s1 (x:UInt32):UInt32:=rot x 17^^^rot x 19^^^dn x 10
def be (a b c d:UInt8):Nat:=((a.toNat*256+b.toNat)*256+c.toNat)*256+d.toNat
theorem be_lt (a b c d:UInt8):be a b c d<4294967296:=by
 unfold be
 have:=a.toNat_lt;have:=b.toNat_lt;have:=c.toNat_lt;have:=d.toNat_lt
 omega
def wd (b:By)(t:Nat):UInt32:=UInt32.ofNat (be (b.getD (4*t) 0) (b.getD (4*t+1) 0) (b.getD (4*t+2) 0) (b.getD (4*t+3) 0))
def nx (l:List UInt32):UInt32:=l.getD (l.length-16) 0+l.getD (l.length-7) 0+s0 (l.getD (l.length-15) 0)+s1 (l.getD (l.length-2) 0)
def sch (b:By):Nat→List UInt32
 |0=> []
 |t+1=>if t<16 then sch b t++ [wd b t] else sch b t++ [nx (sch b t)]
theorem sch_len (b:By)(t:Nat):(sch b t).length=t:=by
 induction t with
 |zero=>rfl
 |succ t ih=>unfold sch;split<;>simp[ih]
theorem sch_lo (b:By)(t:Nat)(h:t<16):sch b (t+1)=sch b t++ [wd b t]:=by rw[sch,if_pos h]
theorem sch_hi (b:By)(t:Nat)(h: ¬t<16):sch b (t+1)=sch b t++ [nx (sch b t)]:=by rw[sch,if_neg h]
structure Oct where
 a:UInt32
 b:UInt32
 c:UInt32
 d:UInt32
 e:UInt32
 f:UInt32
 g:UInt32
 h:UInt32
def Oct.l (v:Oct):List UInt32:= [v.a,v.b,v.c,v.d,v.e,v.f,v.g,v.h]
def one (v:Oct)(k w:UInt32):UInt32:=v.h+S1 v.e+((v.e&&&v.f)^^^(~~~ v.e&&&v.g))+k+w
def two (v:Oct):UInt32:=S0 v.a+((v.a&&&v.b)^^^(v.a&&&v.c)^^^(v.b&&&v.c))
def rnd (v:Oct)(k w:UInt32):Oct:=⟨one v k w+two v,v.a,v.b,v.c,v.d+one v k w,v.e,v.f,v.g⟩
def ks:List UInt32:= [
 0x428a2f98,0x71374491,0xb5c0fbcf,0xe9b5dba5,0x3956c25b,0x59f111f1,0x923f82a4,0xab1c5ed5,
 0xd807aa98,0x12835b01,0x243185be,0x550c7dc3,0x72be5d74,0x80deb1fe,0x9bdc06a7,0xc19bf174,
 0xe49b69c1,0xefbe4786,0x0fc19dc6,0x240ca1cc,0x2de92c6f,0x4a7484aa,0x5cb0a9dc,0x76f988da,
 0x983e5152,0xa831c66d,0xb00327c8,0xbf597fc7,0xc6e00bf3,0xd5a79147,0x06ca6351,0x14292967,
 0x27b70a85,0x2e1b2138,0x4d2c6dfc,0x53380d13,0x650a7354,0x766a0abb,0x81c2c92e,0x92722c85,
 0xa2bfe8a1,0xa81a664b,0xc24b8b70,0xc76c51a3,0xd192e819,0xd6990624,0xf40e3585,0x106aa070,
 0x19a4c116,0x1e376c08,0x2748774c,0x34b0bcb5,0x391c0cb3,0x4ed8aa4a,0x5b9cca4f,0x682e6ff3,
 0x748f82ee,0x78a5636f,0x84c87814,0x8cc70208,0x90befffa,0xa4506ceb,0xbef9a3f7,0xc67178f2]
def rnds (b:By)(v:Oct):Nat→Oct
 |0=>v
 |t+1=>rnd (rnds b v t) (ks.getD t 0) ((sch b 64).getD t 0)
def sum8 (v u:Oct):Oct:=⟨v.a+u.a,v.b+u.b,v.c+u.c,v.d+u.d,v.e+u.e,v.f+u.f,v.g+u.g,v.h+u.h⟩
def tk (v:Oct)(b:By):Oct:=sum8 v (rnds b v 64)
def blks (v:Oct)(m:By):Nat→Oct
 |0=>v
 |k+1=>tk (blks v m k) ((m.drop (64*k)).take 64)
def h0:Oct:=⟨0x6a09e667,0xbb67ae85,0x3c6ef372,0xa54ff53a,0x510e527f,0x9b05688c,0x1f83d9ab,0x5be0cd19⟩
theorem blks_app (v:Oct)(m t:By)(k:Nat)(h:64*k≤m.length):blks v (m++t) k=blks v m k:=by
 induction k with
 |zero=>rfl
 |succ k ih=>
  unfold blks
  rw[ih Z15,List.drop_append_of_le_length Z15,List.take_append_of_le_length (by rw[List.length_drop];omega)]
def zs (n:Nat):Nat:=(119-n % 64)% 64
def le8 (n:Nat):By:=(List.range 8).map fun i=>UInt8.ofNat (n*8 % 18446744073709551616/2^(56-8*i)% 256)
def padded (m:By):By:=m++128::(List.replicate (zs m.length) 0++le8 m.length)
theorem padded_len (m:By):(padded m).length=64*((m.length+72)/64):=by
 simp[padded,le8,zs];omega
def b4 (x:UInt32):By:= [UInt8.ofNat (x.toNat/16777216),UInt8.ofNat (x.toNat/65536 % 256),UInt8.ofNat (x.toNat/256 % 256),UInt8.ofNat (x.toNat % 256)]
def dig (v:Oct):By:=v.l.flatMap b4
def sha (m:By):By:=dig (blks h0 (padded m) ((m.length+72)/64))
def key (k:By):By:=(if k.length>64 then sha k else k)++List.replicate (64-(if k.length>64 then sha k else k).length) 0
def mac (k m:By):By:=sha ((key k).map (· ^^^0x5c)++sha ((key k).map (· ^^^0x36)++m))
theorem sha_len (m:By):(sha m).length=32:=rfl
end Go.Proofs.YtdmjegelcdghlaaGreat.Sh
namespace Go.Proofs.YtdmjegelcdghlaaGreat
theorem Z39 {p:Prop}(h:p:=by decide):p:=h
open Go.RowKit
theorem u32_lt (x:UInt32):x.toNat<4294967296:=x.toNat_lt
theorem ofInt_w (x:UInt32):BitVec.ofInt 32 (x.toNat:Int)=x.toBitVec:=by
 apply BitVec.eq_of_toNat_eq;simp
theorem bits_xor_w (a b:UInt32):bits .xor .u32 (a.toNat:Int) (b.toNat:Int)=((a^^^b).toNat:Int):=by
 show IntKind.u32.wrap ((BitVec.ofInt 32 (a.toNat:Int)^^^BitVec.ofInt 32 (b.toNat:Int)).toNat:Int)=_
 rw[ofInt_w,ofInt_w]
 exact wraps_u32 _ Z11 (by have:=(a^^^b).toNat_lt;exact_mod_cast this)
theorem bits_and_w (a b:UInt32):bits .and .u32 (a.toNat:Int) (b.toNat:Int)=((a&&&b).toNat:Int):=by
 show IntKind.u32.wrap ((BitVec.ofInt 32 (a.toNat:Int)&&&BitVec.ofInt 32 (b.toNat:Int)).toNat:Int)=_
 rw[ofInt_w,ofInt_w]
 exact wraps_u32 _ Z11 (by have:=(a&&&b).toNat_lt;exact_mod_cast this)
theorem add_w (a b:UInt32):IntKind.u32.wrap ((a.toNat:Int)+(b.toNat:Int))=((a+b).toNat:Int):=by
 rw[IntKind.wrap_u32,UInt32.toNat_add];omega
theorem rot_or (x:UInt32)(n:Nat)(p q:Int)(hn:n≤32)(hp:p=((2^(32-n):Nat):Int))(hq:q=((2^n:Nat):Int)):
 bits .or .u32 ((x.toNat:Int)*p % 4294967296) ((x.toNat:Int)/q)=((Sh.rot x n).toNat:Int):=by
 subst hp;subst hq
 rw[Sh.rot_nat x n hn]
 have hx:=x.toNat_lt
 generalize x.toNat=y at hx
 have hm:(2:Nat)^n*2^(32-n)=4294967296:=by rw[←Nat.pow_add,show n+(32-n)=32 from Z11]
 have h1:y*2^(32-n)% 4294967296=y % 2^n*2^(32-n):=by rw[←hm,Nat.mul_mod_mul_right]
 have h3:y/2^n<2^(32-n):=by
  rw[Nat.div_lt_iff_lt_mul (Nat.two_pow_pos n),Nat.mul_comm,hm];exact hx
 have h4:y % 2^n<2^n:=Nat.mod_lt _ (Nat.two_pow_pos n)
 have h5:y % 2^n*2^(32-n)<4294967296:=by rw[←hm];exact Nat.mul_lt_mul_of_pos_right h4 (Nat.two_pow_pos _)
 have e1:(y:Int)*((2^(32-n):Nat):Int)% 4294967296=((y % 2^n*2^(32-n):Nat):Int):=by rw[←h1,Int.natCast_emod,Int.natCast_mul];rfl
 have e2:(y:Int)/((2^n:Nat):Int)=((y/2^n:Nat):Int):=(Int.natCast_ediv y (2^n)).symm
 rw[e1,e2,bits_join .u32 32 Z39 wraps_u32 (32-n) _ _ (Int.natCast_nonneg _) ?_ (by exact_mod_cast h5) (Int.natCast_nonneg _) ?_ ?_]
 ·push_cast;omega
 ·have:y % 2^n*2^(32-n)% 2^(32-n)=0:=Nat.mul_mod_left _ _
  exact_mod_cast this
 ·exact_mod_cast h3
 ·have:y/2^n<4294967296:=Nat.lt_of_le_of_lt (Nat.div_le_self _ _) hx
  exact_mod_cast this
theorem rotl_7 (x:UInt32)(w:World):Calls Tryz.prog 202 #[.int .u32 (x.toNat:Int),.int .i64 (-7)] w fun e w'=>e= .returned (.int .u32 ((Sh.rot x 7).toNat:Int))∧w'=w:=by
 have hk:bits .and .u64 (IntKind.u64.wrap (-7)) 31=25:=by decide+kernel
 go_enter Tryz.func202,Tryz.ntmps202
 go_wp2
 go_ret
 exact⟨ret_int (rot_or x 7 33554432 128 Z39 rfl rfl),rfl⟩
theorem rotl_18 (x:UInt32)(w:World):Calls Tryz.prog 202 #[.int .u32 (x.toNat:Int),.int .i64 (-18)] w fun e w'=>e= .returned (.int .u32 ((Sh.rot x 18).toNat:Int))∧w'=w:=by
 have hk:bits .and .u64 (IntKind.u64.wrap (-18)) 31=14:=by decide+kernel
 go_enter Tryz.func202,Tryz.ntmps202
 go_wp2
 go_ret
 exact⟨ret_int (rot_or x 18 16384 262144 Z39 rfl rfl),rfl⟩
theorem rotl_17 (x:UInt32)(w:World):Calls Tryz.prog 202 #[.int .u32 (x.toNat:Int),.int .i64 (-17)] w fun e w'=>e= .returned (.int .u32 ((Sh.rot x 17).toNat:Int))∧w'=w:=by
 have hk:bits .and .u64 (IntKind.u64.wrap (-17)) 31=15:=by decide+kernel
 go_enter Tryz.func202,Tryz.ntmps202
 go_wp2
 go_ret
 exact⟨ret_int (rot_or x 17 32768 131072 Z39 rfl rfl),rfl⟩
theorem rotl_19 (x:UInt32)(w:World):Calls Tryz.prog 202 #[.int .u32 (x.toNat:Int),.int .i64 (-19)] w fun e w'=>e= .returned (.int .u32 ((Sh.rot x 19).toNat:Int))∧w'=w:=by
 have hk:bits .and .u64 (IntKind.u64.wrap (-19)) 31=13:=by decide+kernel
 go_enter Tryz.func202,Tryz.ntmps202
 go_wp2
 go_ret
 exact⟨ret_int (rot_or x 19 8192 524288 Z39 rfl rfl),rfl⟩
theorem rotl_6 (x:UInt32)(w:World):Calls Tryz.prog 202 #[.int .u32 (x.toNat:Int),.int .i64 (-6)] w fun e w'=>e= .returned (.int .u32 ((Sh.rot x 6).toNat:Int))∧w'=w:=by
 have hk:bits .and .u64 (IntKind.u64.wrap (-6)) 31=26:=by decide+kernel
 go_enter Tryz.func202,Tryz.ntmps202
 go_wp2
 go_ret
 exact⟨ret_int (rot_or x 6 67108864 64 Z39 rfl rfl),rfl⟩
theorem rotl_11 (x:UInt32)(w:World):Calls Tryz.prog 202 #[.int .u32 (x.toNat:Int),.int .i64 (-11)] w fun e w'=>e= .returned (.int .u32 ((Sh.rot x 11).toNat:Int))∧w'=w:=by
 have hk:bits .and .u64 (IntKind.u64.wrap (-11)) 31=21:=by decide+kernel
 go_enter Tryz.func202,Tryz.ntmps202
 go_wp2
 go_ret
 exact⟨ret_int (rot_or x 11 2097152 2048 Z39 rfl rfl),rfl⟩
theorem rotl_25 (x:UInt32)(w:World):Calls Tryz.prog 202 #[.int .u32 (x.toNat:Int),.int .i64 (-25)] w fun e w'=>e= .returned (.int .u32 ((Sh.rot x 25).toNat:Int))∧w'=w:=by
 have hk:bits .and .u64 (IntKind.u64.wrap (-25)) 31=7:=by decide+kernel
 go_enter Tryz.func202,Tryz.ntmps202
 go_wp2
 go_ret
 exact⟨ret_int (rot_or x 25 128 33554432 Z39 rfl rfl),rfl⟩
theorem rotl_2 (x:UInt32)(w:World):Calls Tryz.prog 202 #[.int .u32 (x.toNat:Int),.int .i64 (-2)] w fun e w'=>e= .returned (.int .u32 ((Sh.rot x 2).toNat:Int))∧w'=w:=by
 have hk:bits .and .u64 (IntKind.u64.wrap (-2)) 31=30:=by decide+kernel
 go_enter Tryz.func202,Tryz.ntmps202
 go_wp2
 go_ret
 exact⟨ret_int (rot_or x 2 1073741824 4 Z39 rfl rfl),rfl⟩
theorem rotl_13 (x:UInt32)(w:World):Calls Tryz.prog 202 #[.int .u32 (x.toNat:Int),.int .i64 (-13)] w fun e w'=>e= .returned (.int .u32 ((Sh.rot x 13).toNat:Int))∧w'=w:=by
 have hk:bits .and .u64 (IntKind.u64.wrap (-13)) 31=19:=by decide+kernel
 go_enter Tryz.func202,Tryz.ntmps202
 go_wp2
 go_ret
 exact⟨ret_int (rot_or x 13 524288 8192 Z39 rfl rfl),rfl⟩
theorem rotl_22 (x:UInt32)(w:World):Calls Tryz.prog 202 #[.int .u32 (x.toNat:Int),.int .i64 (-22)] w fun e w'=>e= .returned (.int .u32 ((Sh.rot x 22).toNat:Int))∧w'=w:=by
 have hk:bits .and .u64 (IntKind.u64.wrap (-22)) 31=10:=by decide+kernel
 go_enter Tryz.func202,Tryz.ntmps202
 go_wp2
 go_ret
 exact⟨ret_int (rot_or x 22 1024 4194304 Z39 rfl rfl),rfl⟩
theorem Z96 {p:Prop}(h:p:=by simp):p:=h
end Go.Proofs.YtdmjegelcdghlaaGreat
namespace Go.Proofs.YtdmjegelcdghlaaGreat.Sh
def ov (r:By)(n:Nat)(s:By):By:=r.take n++(s++r.drop (n+s.length))
def SR (m rest:By):Prop:=rest.length=64∧rest.take (m.length % 64)=m.drop (64*(m.length/64))
theorem SR.start:SR [] (List.replicate 64 0):=⟨Z96,rfl⟩
theorem ov_len (r:By)(n:Nat)(s:By)(h:n+s.length≤r.length):(ov r n s).length=r.length:=by simp[ov];omega
theorem SR.block {m rest seg:By}(h:SR m rest)(h0:m.length % 64=0)(hs:seg.length=64):
 SR (m++seg) rest∧blks Sh.h0 (m++seg) ((m++seg).length/64)=tk (blks Sh.h0 m (m.length/64)) seg:=by
 have hl:(m++seg).length=m.length+64:=by simp[hs]
 have hm:64*(m.length/64)=m.length:=by omega
 refine⟨⟨h.1,?_⟩,?_⟩
 ·rw[hl,show(m.length+64)% 64=0 from Z15,show 64*((m.length+64)/64)=m.length+64 from Z15,List.take_zero,List.drop_of_length_le Z15]
 ·rw[hl,show(m.length+64)/64=m.length/64+1 from Z15]
  show tk (blks _ (m++seg) (m.length/64)) (((m++seg).drop (64*(m.length/64))).take 64)=_
  rw[blks_app _ _ _ _ Z15,hm,List.drop_left,List.take_of_length_le Z15]
theorem SR.part {m rest seg:By}(h:SR m rest)(hs:m.length % 64+seg.length<64):
 SR (m++seg) (ov rest (m.length % 64) seg)∧blks Sh.h0 (m++seg) ((m++seg).length/64)=blks Sh.h0 m (m.length/64):=by
 have hl:(m++seg).length=m.length+seg.length:=by simp
 have hd:(m++seg).length/64=m.length/64:=by rw[hl];omega
 have hr:=h.1
 refine⟨⟨by rw[ov_len _ _ _ Z15];exact h.1,?_⟩,?_⟩
 ·rw[hd,List.drop_append_of_le_length Z15,←h.2,show(m++seg).length % 64=m.length % 64+seg.length from by rw[hl];omega]
  unfold ov
  rw[←List.append_assoc,List.take_append_of_le_length (by simp;omega),List.take_of_length_le (by simp;omega)]
 ·rw[hd];exact blks_app _ _ _ _ Z15
theorem SR.full {m rest seg:By}(h:SR m rest)(hs:m.length % 64+seg.length=64):
 SR (m++seg) (ov rest (m.length % 64) seg)∧blks Sh.h0 (m++seg) ((m++seg).length/64)=tk (blks Sh.h0 m (m.length/64)) (ov rest (m.length % 64) seg):=by
 have hl:(m++seg).length=m.length+seg.length:=by simp
 have hd:(m++seg).length/64=m.length/64+1:=by rw[hl];omega
 have hr:=h.1
 have hov:ov rest (m.length % 64) seg=(m++seg).drop (64*(m.length/64)):=by
  unfold ov
  rw[List.drop_of_length_le Z15,List.append_nil,List.drop_append_of_le_length Z15,←h.2]
 have hlen:(ov rest (m.length % 64) seg).length=64:=by rw[ov_len _ _ _ Z15];exact h.1
 refine⟨⟨hlen,?_⟩,?_⟩
 ·rw[hd,show(m++seg).length % 64=0 from by rw[hl];omega,List.take_zero,List.drop_of_length_le (by rw[hl];omega)]
 ·rw[hd]
  show tk (blks _ (m++seg) (m.length/64)) (((m++seg).drop (64*(m.length/64))).take 64)=_
  rw[blks_app _ _ _ _ Z15,←hov,List.take_of_length_le Z15]
theorem pad_zeros (n:Nat):(n+1+zs n)% 64=56:=by unfold zs;omega
theorem pad_more (n k:Nat)(h:k<zs n):(n+1+k)% 64≠56:=by unfold zs at h;omega
end Go.Proofs.YtdmjegelcdghlaaGreat.Sh
