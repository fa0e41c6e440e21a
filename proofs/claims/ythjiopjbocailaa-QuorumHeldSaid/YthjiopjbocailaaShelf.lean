/-
  The contracts of the library's functions that the kit's shelf lays at this seat's program (written by the kit's tool; its remarks are taken out). Conditions: each theorem's own.
-/
import Derived.Shelf.Sort.Plain
import Derived.Test.YthjiopjbocailaaProg
namespace Go.Proofs
open Go.Shelf
def Try.lays189_ren : Go.Shelf.Ren := ⟨fun | 189 => 23 | 125 => 26 | 257 => 25 | 128 => 36 | 129 => 37 | 294 => 27 | 295 => 28 | 296 => 29 | 297 => 30 | 298 => 31 | 299 => 32 | 216 => 33 | 300 => 34 | 301 => 35 | 328 => 38 | 329 => 39 | 330 => 40 | 331 => 41 | 332 => 42 | 215 => 43 | 343 => 44 | n => n, fun | 28 => 31 | 3 => 3 | 46 => 22 | 0 => 0 | 51 => 53 | 53 => 55 | 4 => 4 | 183 => 45 | 182 => 44 | 131 => 50 | 5 => 5 | 9 => 9 | 218 => 56 | 222 => 60 | 228 => 63 | 229 => 64 | n => n, fun | n => n⟩
theorem Try.lays189 : Go.Proofs.Lays.n189 Try.prog Try.lays189_ren := {
  mixed := by kernel_rfl
  f125 := Try.func26.trans (congrArg some (by kernel_rfl))
  f128 := Try.func36.trans (congrArg some (by kernel_rfl))
  f129 := Try.func37.trans (congrArg some (by kernel_rfl))
  f189 := Try.func23.trans (congrArg some (by kernel_rfl))
  f215 := Try.func43.trans (congrArg some (by kernel_rfl))
  f216 := Try.func33.trans (congrArg some (by kernel_rfl))
  f257 := Try.func25.trans (congrArg some (by kernel_rfl))
  f294 := Try.func27.trans (congrArg some (by kernel_rfl))
  f295 := Try.func28.trans (congrArg some (by kernel_rfl))
  f296 := Try.func29.trans (congrArg some (by kernel_rfl))
  f297 := Try.func30.trans (congrArg some (by kernel_rfl))
  f298 := Try.func31.trans (congrArg some (by kernel_rfl))
  f299 := Try.func32.trans (congrArg some (by kernel_rfl))
  f300 := Try.func34.trans (congrArg some (by kernel_rfl))
  f301 := Try.func35.trans (congrArg some (by kernel_rfl))
  f328 := Try.func38.trans (congrArg some (by kernel_rfl))
  f329 := Try.func39.trans (congrArg some (by kernel_rfl))
  f330 := Try.func40.trans (congrArg some (by kernel_rfl))
  f331 := Try.func41.trans (congrArg some (by kernel_rfl))
  f332 := Try.func42.trans (congrArg some (by kernel_rfl))
  f343 := Try.func44.trans (congrArg some (by kernel_rfl))
  t0 := Try.underlying0
  a0 := Try.isAgg0
  z0 := Try.sizeOf0
  v0 := Try.zeroValue0
  t3 := Try.underlying3
  a3 := Try.isAgg3
  z3 := Try.sizeOf3
  v3 := Try.zeroValue3
  t4 := Try.underlying4
  a4 := Try.isAgg4
  z4 := Try.sizeOf4
  v4 := Try.zeroValue4
  t5 := Try.underlying5
  a5 := Try.isAgg5
  z5 := Try.sizeOf5
  v5 := Try.zeroValue5
  t9 := Try.underlying9
  a9 := Try.isAgg9
  z9 := Try.sizeOf9
  v9 := Try.zeroValue9
  t28 := Try.underlying31
  a28 := Try.isAgg31
  z28 := Try.sizeOf31
  v28 := Try.zeroValue31
  t46 := Try.underlying22
  a46 := Try.isAgg22
  z46 := Try.sizeOf22
  v46 := Try.zeroValue22
  t51 := Try.underlying53
  a51 := Try.isAgg53
  z51 := Try.sizeOf53
  v51 := Try.zeroValue53
  t53 := Try.underlying55
  a53 := Try.isAgg55
  z53 := Try.sizeOf55
  v53 := Try.zeroValue55
  t131 := Try.underlying50
  a131 := Try.isAgg50
  z131 := Try.sizeOf50
  v131 := Try.zeroValue50
  t182 := Try.underlying44
  a182 := Try.isAgg44
  z182 := Try.sizeOf44
  v182 := Try.zeroValue44
  t183 := Try.underlying45
  a183 := Try.isAgg45
  z183 := Try.sizeOf45
  v183 := Try.zeroValue45
  t218 := Try.underlying56
  a218 := Try.isAgg56
  z218 := Try.sizeOf56
  v218 := Try.zeroValue56
  t222 := Try.underlying60
  a222 := Try.isAgg60
  z222 := Try.sizeOf60
  v222 := Try.zeroValue60
  t228 := Try.underlying63
  a228 := Try.isAgg63
  z228 := Try.sizeOf63
  v228 := Try.zeroValue63
  t229 := Try.underlying64
  a229 := Try.isAgg64
  z229 := Try.sizeOf64
  v229 := Try.zeroValue64 }
open Go.Sort Go.RowKit in
theorem Try.slices_Sort_int (blk off cap : Nat) (zs : List Int) (w : World) (hH : Holds (Value.int .i64) w blk off zs.toArray) (hblk : blk < w.heap.size) (hsz : zs.length < 4611686018427387904) :
    Calls Try.prog 23 #[.slice (some ⟨blk, off, none⟩) zs.length cap] w fun e w' =>
      e = .returned (.tuple #[]) ∧ ∃ n os, w' = grow (putRow (Value.int .i64) (Sort.ahead w n) blk off (zs.mergeSort fun x y => decide (x ≤ y)).toArray) os := Any.slices_Sort_int Try.lays189 blk off cap zs w hH hblk hsz
end Go.Proofs
