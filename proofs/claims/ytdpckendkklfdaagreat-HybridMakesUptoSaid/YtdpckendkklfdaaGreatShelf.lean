/- Two contracts of the library's shelf at this seat: math/bits.Len and slices.Sort at []string: laid by the kit's tools lay-shelf.mjs and lay-plain.mjs. -/
import Derived.Shelf.Small.Bits
import Derived.Shelf.Strconv.Itoa0
import Derived.Shelf.Sort.Plain
import Derived.Ground.Names2Prog
import Derived.Test.YtdpckendkklfdaaGreatProg
namespace Go.Proofs
open Go.Shelf
def Tryz.lays125_ren : Go.Shelf.Ren := ⟨fun | 125 => 160 | 128 => 215 | 129 => 216 | n => n, fun | 46 => 135 | 3 => 3 | 51 => 133 | 53 => 22 | 4 => 4 | 5 => 5 | 9 => 9 | n => n, fun | n => n⟩
theorem Tryz.lays125 : Go.Proofs.Lays.n125 Tryz.prog Tryz.lays125_ren := {
  mixed := by kernel_rfl
  f125 := Tryz.func160.trans (congrArg some (by kernel_rfl))
  f128 := Tryz.func215.trans (congrArg some (by kernel_rfl))
  f129 := Tryz.func216.trans (congrArg some (by kernel_rfl))
  t3 := Tryz.underlying3
  a3 := Tryz.isAgg3
  z3 := Tryz.sizeOf3
  v3 := Tryz.zeroValue3
  t4 := Tryz.underlying4
  a4 := Tryz.isAgg4
  z4 := Tryz.sizeOf4
  v4 := Tryz.zeroValue4
  t5 := Tryz.underlying5
  a5 := Tryz.isAgg5
  z5 := Tryz.sizeOf5
  v5 := Tryz.zeroValue5
  t9 := Tryz.underlying9
  a9 := Tryz.isAgg9
  z9 := Tryz.sizeOf9
  v9 := Tryz.zeroValue9
  t46 := Tryz.underlying135
  a46 := Tryz.isAgg135
  z46 := Tryz.sizeOf135
  v46 := Tryz.zeroValue135
  t51 := Tryz.underlying133
  a51 := Tryz.isAgg133
  z51 := Tryz.sizeOf133
  v51 := Tryz.zeroValue133
  t53 := Tryz.underlying22
  a53 := Tryz.isAgg22
  z53 := Tryz.sizeOf22
  v53 := Tryz.zeroValue22 }
theorem Tryz.bits_Len (x : Int) (w : World) (h0 : 0 ≤ x) (h1 : x ≤ 18446744073709551615) :
    Calls Tryz.prog 160 #[.int .u64 x] w fun e w' => e = .returned (.int .i64 (Lib.bitLen x.toNat)) ∧ w' = w := Any.bits_Len Tryz.lays125 x w h0 h1
def Tryz.lays190_ren : Go.Shelf.Ren := ⟨fun | 190 => 188 | 125 => 160 | 258 => 240 | 128 => 215 | 129 => 216 | 302 => 265 | 303 => 266 | 304 => 267 | 305 => 268 | 306 => 269 | 307 => 270 | 308 => 254 | 309 => 271 | 310 => 272 | 333 => 278 | 329 => 246 | 330 => 247 | 334 => 279 | 335 => 280 | 336 => 237 | 344 => 282 | n => n, fun | 31 => 24 | 9 => 9 | 3 => 3 | 46 => 135 | 0 => 0 | 51 => 133 | 53 => 22 | 4 => 4 | 183 => 298 | 182 => 297 | 131 => 208 | 5 => 5 | 218 => 319 | 222 => 322 | 228 => 337 | 229 => 338 | n => n, fun | n => n⟩
theorem Tryz.lays190 : Go.Proofs.Lays.n190 Tryz.prog Tryz.lays190_ren := {
  mixed := by kernel_rfl
  f125 := Tryz.func160.trans (congrArg some (by kernel_rfl))
  f128 := Tryz.func215.trans (congrArg some (by kernel_rfl))
  f129 := Tryz.func216.trans (congrArg some (by kernel_rfl))
  f190 := Tryz.func188.trans (congrArg some (by kernel_rfl))
  f258 := Tryz.func240.trans (congrArg some (by kernel_rfl))
  f302 := Tryz.func265.trans (congrArg some (by kernel_rfl))
  f303 := Tryz.func266.trans (congrArg some (by kernel_rfl))
  f304 := Tryz.func267.trans (congrArg some (by kernel_rfl))
  f305 := Tryz.func268.trans (congrArg some (by kernel_rfl))
  f306 := Tryz.func269.trans (congrArg some (by kernel_rfl))
  f307 := Tryz.func270.trans (congrArg some (by kernel_rfl))
  f308 := Tryz.func254.trans (congrArg some (by kernel_rfl))
  f309 := Tryz.func271.trans (congrArg some (by kernel_rfl))
  f310 := Tryz.func272.trans (congrArg some (by kernel_rfl))
  f329 := Tryz.func246.trans (congrArg some (by kernel_rfl))
  f330 := Tryz.func247.trans (congrArg some (by kernel_rfl))
  f333 := Tryz.func278.trans (congrArg some (by kernel_rfl))
  f334 := Tryz.func279.trans (congrArg some (by kernel_rfl))
  f335 := Tryz.func280.trans (congrArg some (by kernel_rfl))
  f336 := Tryz.func237.trans (congrArg some (by kernel_rfl))
  f344 := Tryz.func282.trans (congrArg some (by kernel_rfl))
  t0 := Tryz.underlying0
  a0 := Tryz.isAgg0
  z0 := Tryz.sizeOf0
  v0 := Tryz.zeroValue0
  t3 := Tryz.underlying3
  a3 := Tryz.isAgg3
  z3 := Tryz.sizeOf3
  v3 := Tryz.zeroValue3
  t4 := Tryz.underlying4
  a4 := Tryz.isAgg4
  z4 := Tryz.sizeOf4
  v4 := Tryz.zeroValue4
  t5 := Tryz.underlying5
  a5 := Tryz.isAgg5
  z5 := Tryz.sizeOf5
  v5 := Tryz.zeroValue5
  t9 := Tryz.underlying9
  a9 := Tryz.isAgg9
  z9 := Tryz.sizeOf9
  v9 := Tryz.zeroValue9
  t31 := Tryz.underlying24
  a31 := Tryz.isAgg24
  z31 := Tryz.sizeOf24
  v31 := Tryz.zeroValue24
  t46 := Tryz.underlying135
  a46 := Tryz.isAgg135
  z46 := Tryz.sizeOf135
  v46 := Tryz.zeroValue135
  t51 := Tryz.underlying133
  a51 := Tryz.isAgg133
  z51 := Tryz.sizeOf133
  v51 := Tryz.zeroValue133
  t53 := Tryz.underlying22
  a53 := Tryz.isAgg22
  z53 := Tryz.sizeOf22
  v53 := Tryz.zeroValue22
  t131 := Tryz.underlying208
  a131 := Tryz.isAgg208
  z131 := Tryz.sizeOf208
  v131 := Tryz.zeroValue208
  t182 := Tryz.underlying297
  a182 := Tryz.isAgg297
  z182 := Tryz.sizeOf297
  v182 := Tryz.zeroValue297
  t183 := Tryz.underlying298
  a183 := Tryz.isAgg298
  z183 := Tryz.sizeOf298
  v183 := Tryz.zeroValue298
  t218 := Tryz.underlying319
  a218 := Tryz.isAgg319
  z218 := Tryz.sizeOf319
  v218 := Tryz.zeroValue319
  t222 := Tryz.underlying322
  a222 := Tryz.isAgg322
  z222 := Tryz.sizeOf322
  v222 := Tryz.zeroValue322
  t228 := Tryz.underlying337
  a228 := Tryz.isAgg337
  z228 := Tryz.sizeOf337
  v228 := Tryz.zeroValue337
  t229 := Tryz.underlying338
  a229 := Tryz.isAgg338
  z229 := Tryz.sizeOf338
  v229 := Tryz.zeroValue338 }
open Go.Sort Go.RowKit in
theorem Tryz.slices_Sort_string (blk off cap : Nat) (ss : List (List UInt8)) (w : World) (hH : Holds encStr w blk off ss.toArray) (hblk : blk < w.heap.size) (hsz : ss.length < 4611686018427387904) :
    Calls Tryz.prog 188 #[.slice (some ⟨blk, off, none⟩) ss.length cap] w fun e w' =>
      e = .returned (.tuple #[]) ∧ ∃ n os, w' = grow (putRow encStr (Sort.ahead w n) blk off (ss.mergeSort fun x y => decide (x ≤ y)).toArray) os := Any.slices_Sort_string Tryz.lays190 blk off cap ss w hH hblk hsz
end Go.Proofs
