/-
  Chapter 3, plain: words of 32 bits, how they are turned, the schedule, the rounds, what a text's digest is. No program here.
  (Texts put together: Ha Hb Hd.)
-/
import Derived.Test.YtdmjegelcdghlaaGreatGPl
import Derived.Test.YtdmjegelcdghlaaGreatChecked
import Derived.Tactics
import Derived.Tactics2
import Derived.IntWalk
import Derived.Lib.EndianBits
namespace Go.Proofs.YtdmjegelcdghlaaGreat.Sh
abbrev By := List UInt8

def rot (x : UInt32) (n : Nat) : UInt32 := UInt32.ofNat (x.toNat / 2 ^ n + x.toNat % 2 ^ n * 2 ^ (32 - n))
def dn (x : UInt32) (n : Nat) : UInt32 := UInt32.ofNat (x.toNat / 2 ^ n)
/-! the functions of a word -/
def S0 (x : UInt32) : UInt32 := rot x 2 ^^^ rot x 13 ^^^ rot x 22
def S1 (x : UInt32) : UInt32 := rot x 6 ^^^ rot x 11 ^^^ rot x 25
def s0 (x : UInt32) : UInt32 := rot x 7 ^^^ rot x 18 ^^^ dn x 3
def s1 (x : UInt32) : UInt32 := rot x 17 ^^^ rot x 19 ^^^ dn x 10
def be (a b c d : UInt8) : Nat := ((a.toNat * 256 + b.toNat) * 256 + c.toNat) * 256 + d.toNat
def wd (b : By) (t : Nat) : UInt32 := UInt32.ofNat (be (b.getD (4 * t) 0) (b.getD (4 * t + 1) 0) (b.getD (4 * t + 2) 0) (b.getD (4 * t + 3) 0))
def nx (l : List UInt32) : UInt32 := l.getD (l.length - 16) 0 + l.getD (l.length - 7) 0 + s0 (l.getD (l.length - 15) 0) + s1 (l.getD (l.length - 2) 0)
def sch (b : By) : Nat → List UInt32
  | 0 => []
  | t + 1 => if t < 16 then sch b t ++ [wd b t] else sch b t ++ [nx (sch b t)]
structure Oct where
  a : UInt32
  b : UInt32
  c : UInt32
  d : UInt32
  e : UInt32
  f : UInt32
  g : UInt32
  h : UInt32
def Oct.l (v : Oct) : List UInt32 := [v.a, v.b, v.c, v.d, v.e, v.f, v.g, v.h]
def one (v : Oct) (k w : UInt32) : UInt32 := v.h + S1 v.e + ((v.e &&& v.f) ^^^ (~~~ v.e &&& v.g)) + k + w
def two (v : Oct) : UInt32 := S0 v.a + ((v.a &&& v.b) ^^^ (v.a &&& v.c) ^^^ (v.b &&& v.c))
def rnd (v : Oct) (k w : UInt32) : Oct := ⟨one v k w + two v, v.a, v.b, v.c, v.d + one v k w, v.e, v.f, v.g⟩
def ks : List UInt32 := [
  0x428a2f98, 0x71374491, 0xb5c0fbcf, 0xe9b5dba5, 0x3956c25b, 0x59f111f1, 0x923f82a4, 0xab1c5ed5,
  0xd807aa98, 0x12835b01, 0x243185be, 0x550c7dc3, 0x72be5d74, 0x80deb1fe, 0x9bdc06a7, 0xc19bf174,
  0xe49b69c1, 0xefbe4786, 0x0fc19dc6, 0x240ca1cc, 0x2de92c6f, 0x4a7484aa, 0x5cb0a9dc, 0x76f988da,
  0x983e5152, 0xa831c66d, 0xb00327c8, 0xbf597fc7, 0xc6e00bf3, 0xd5a79147, 0x06ca6351, 0x14292967,
  0x27b70a85, 0x2e1b2138, 0x4d2c6dfc, 0x53380d13, 0x650a7354, 0x766a0abb, 0x81c2c92e, 0x92722c85,
  0xa2bfe8a1, 0xa81a664b, 0xc24b8b70, 0xc76c51a3, 0xd192e819, 0xd6990624, 0xf40e3585, 0x106aa070,
  0x19a4c116, 0x1e376c08, 0x2748774c, 0x34b0bcb5, 0x391c0cb3, 0x4ed8aa4a, 0x5b9cca4f, 0x682e6ff3,
  0x748f82ee, 0x78a5636f, 0x84c87814, 0x8cc70208, 0x90befffa, 0xa4506ceb, 0xbef9a3f7, 0xc67178f2]
def rnds (b : By) (v : Oct) : Nat → Oct
  | 0 => v
  | t + 1 => rnd (rnds b v t) (ks.getD t 0) ((sch b 64).getD t 0)
def sum8 (v u : Oct) : Oct := ⟨v.a + u.a, v.b + u.b, v.c + u.c, v.d + u.d, v.e + u.e, v.f + u.f, v.g + u.g, v.h + u.h⟩
def tk (v : Oct) (b : By) : Oct := sum8 v (rnds b v 64)
def blks (v : Oct) (m : By) : Nat → Oct
  | 0 => v
  | k + 1 => tk (blks v m k) ((m.drop (64 * k)).take 64)
def h0 : Oct := ⟨0x6a09e667, 0xbb67ae85, 0x3c6ef372, 0xa54ff53a, 0x510e527f, 0x9b05688c, 0x1f83d9ab, 0x5be0cd19⟩
def zs (n : Nat) : Nat := (119 - n % 64) % 64
def le8 (n : Nat) : By := (List.range 8).map fun i => UInt8.ofNat (n * 8 % 18446744073709551616 / 2 ^ (56 - 8 * i) % 256)
def padded (m : By) : By := m ++ 128 :: (List.replicate (zs m.length) 0 ++ le8 m.length)
def b4 (x : UInt32) : By := [UInt8.ofNat (x.toNat / 16777216), UInt8.ofNat (x.toNat / 65536 % 256), UInt8.ofNat (x.toNat / 256 % 256), UInt8.ofNat (x.toNat % 256)]
def dig (v : Oct) : By := v.l.flatMap b4
def sha (m : By) : By := dig (blks h0 (padded m) ((m.length + 72) / 64))
def key (k : By) : By := (if k.length > 64 then sha k else k) ++ List.replicate (64 - (if k.length > 64 then sha k else k).length) 0
def mac (k m : By) : By := sha ((key k).map (· ^^^ 0x5c) ++ sha ((key k).map (· ^^^ 0x36) ++ m))
end Go.Proofs.YtdmjegelcdghlaaGreat.Sh
namespace Go.Proofs.YtdmjegelcdghlaaGreat
open Go.RowKit

end Go.Proofs.YtdmjegelcdghlaaGreat
namespace Go.Proofs.YtdmjegelcdghlaaGreat.Sh

end Go.Proofs.YtdmjegelcdghlaaGreat.Sh
