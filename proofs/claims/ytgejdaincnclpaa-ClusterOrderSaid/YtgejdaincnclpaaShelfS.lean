/- The contracts of slices.Sort at this dump (a part of what the kit's lay-plain has written). -/
import Derived.Test.YtgejdaincnclpaaShelf
import Derived.Shelf.Sort.Plain
import Derived.Shelf.Slices.In.SortNone
import Derived.Ground.Names2Prog
import Derived.Test.YtgejdaincnclpaaProg
namespace Go.Proofs
open Go.Shelf
def Try.lays189_ren : Go.Shelf.Ren := ⟨fun | 189 => 18 | 125 => 33 | 257 => 32 | 128 => 57 | 129 => 58 | 294 => 48 | 295 => 49 | 296 => 50 | 297 => 51 | 298 => 52 | 299 => 53 | 216 => 54 | 300 => 55 | 301 => 56 | 328 => 71 | 329 => 72 | 330 => 73 | 331 => 74 | 332 => 75 | 215 => 76 | 343 => 87 | n => n, fun | 28 => 27 | 3 => 3 | 46 => 75 | 0 => 0 | 51 => 97 | 53 => 99 | 4 => 4 | 183 => 89 | 182 => 88 | 131 => 94 | 5 => 5 | 9 => 9 | 218 => 109 | 222 => 113 | 228 => 125 | 229 => 126 | n => n, fun | n => n⟩
theorem Try.lays189 : Go.Proofs.Lays.n189 Try.prog Try.lays189_ren := {
  mixed := by kernel_rfl
  f125 := Try.func33.trans (congrArg some (by kernel_rfl))
  f128 := Try.func57.trans (congrArg some (by kernel_rfl))
  f129 := Try.func58.trans (congrArg some (by kernel_rfl))
  f189 := Try.func18.trans (congrArg some (by kernel_rfl))
  f215 := Try.func76.trans (congrArg some (by kernel_rfl))
  f216 := Try.func54.trans (congrArg some (by kernel_rfl))
  f257 := Try.func32.trans (congrArg some (by kernel_rfl))
  f294 := Try.func48.trans (congrArg some (by kernel_rfl))
  f295 := Try.func49.trans (congrArg some (by kernel_rfl))
  f296 := Try.func50.trans (congrArg some (by kernel_rfl))
  f297 := Try.func51.trans (congrArg some (by kernel_rfl))
  f298 := Try.func52.trans (congrArg some (by kernel_rfl))
  f299 := Try.func53.trans (congrArg some (by kernel_rfl))
  f300 := Try.func55.trans (congrArg some (by kernel_rfl))
  f301 := Try.func56.trans (congrArg some (by kernel_rfl))
  f328 := Try.func71.trans (congrArg some (by kernel_rfl))
  f329 := Try.func72.trans (congrArg some (by kernel_rfl))
  f330 := Try.func73.trans (congrArg some (by kernel_rfl))
  f331 := Try.func74.trans (congrArg some (by kernel_rfl))
  f332 := Try.func75.trans (congrArg some (by kernel_rfl))
  f343 := Try.func87.trans (congrArg some (by kernel_rfl))
  t0 := Try.underlying0
  a0 := Try.isAgg0
  z0 := Try.sizeOf0
  v0 := Try.zeroValue0
  t3 := Try.underlying3
  a3 := Try.isAgg3
  z3 := Try.sizeOf3
  v3 := Try.zeroValue3
  t4 := Try.underlying4
  a4 := Try.isAgg4
  z4 := Try.sizeOf4
  v4 := Try.zeroValue4
  t5 := Try.underlying5
  a5 := Try.isAgg5
  z5 := Try.sizeOf5
  v5 := Try.zeroValue5
  t9 := Try.underlying9
  a9 := Try.isAgg9
  z9 := Try.sizeOf9
  v9 := Try.zeroValue9
  t28 := Try.underlying27
  a28 := Try.isAgg27
  z28 := Try.sizeOf27
  v28 := Try.zeroValue27
  t46 := Try.underlying75
  a46 := Try.isAgg75
  z46 := Try.sizeOf75
  v46 := Try.zeroValue75
  t51 := Try.underlying97
  a51 := Try.isAgg97
  z51 := Try.sizeOf97
  v51 := Try.zeroValue97
  t53 := Try.underlying99
  a53 := Try.isAgg99
  z53 := Try.sizeOf99
  v53 := Try.zeroValue99
  t131 := Try.underlying94
  a131 := Try.isAgg94
  z131 := Try.sizeOf94
  v131 := Try.zeroValue94
  t182 := Try.underlying88
  a182 := Try.isAgg88
  z182 := Try.sizeOf88
  v182 := Try.zeroValue88
  t183 := Try.underlying89
  a183 := Try.isAgg89
  z183 := Try.sizeOf89
  v183 := Try.zeroValue89
  t218 := Try.underlying109
  a218 := Try.isAgg109
  z218 := Try.sizeOf109
  v218 := Try.zeroValue109
  t222 := Try.underlying113
  a222 := Try.isAgg113
  z222 := Try.sizeOf113
  v222 := Try.zeroValue113
  t228 := Try.underlying125
  a228 := Try.isAgg125
  z228 := Try.sizeOf125
  v228 := Try.zeroValue125
  t229 := Try.underlying126
  a229 := Try.isAgg126
  z229 := Try.sizeOf126
  v229 := Try.zeroValue126 }
open Go.Sort Go.RowKit in
theorem Try.slices_Sort_int (blk off cap : Nat) (zs : List Int) (w : World) (hH : Holds (Value.int .i64) w blk off zs.toArray) (hblk : blk < w.heap.size) (hsz : zs.length < 4611686018427387904) :
    Calls Try.prog 18 #[.slice (some ⟨blk, off, none⟩) zs.length cap] w fun e w' =>
      e = .returned (.tuple #[]) ∧ ∃ n os, w' = grow (putRow (Value.int .i64) (Sort.ahead w n) blk off (zs.mergeSort fun x y => decide (x ≤ y)).toArray) os := Any.slices_Sort_int Try.lays189 blk off cap zs w hH hblk hsz
open Go.RowKit Go.Sort in
/-- .. and plain. (LAID: no walk: one application.) -/
theorem Try.slices_Sort_int_none (p : Option Addr) (cap : Nat) (w : World) :
    Calls Try.prog 18 #[.slice p 0 cap] w fun e w' => e = .returned (.tuple #[]) ∧ w' = w := Any.slices_Sort_int_none Try.lays189 p cap w
end Go.Proofs
