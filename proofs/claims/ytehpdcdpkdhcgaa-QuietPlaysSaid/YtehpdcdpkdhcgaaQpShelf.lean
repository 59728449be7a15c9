/- Contracts of Go's library at this program: what the kit has proved once, laid here in plain words (by the kit's own tool). -/
import Derived.Shelf.Sort.Plain
import Derived.Shelf.Slices.In.SortNone
import Derived.Test.YtehpdcdpkdhcgaaProg
namespace Go.Proofs
open Go.Shelf Go.Sort
def Try.lays189_ren : Go.Shelf.Ren := ⟨fun | 189 => 31 | 125 => 39 | 257 => 38 | 128 => 52 | 129 => 53 | 294 => 43 | 295 => 44 | 296 => 45 | 297 => 46 | 298 => 47 | 299 => 48 | 216 => 49 | 300 => 50 | 301 => 51 | 328 => 57 | 329 => 58 | 330 => 59 | 331 => 60 | 332 => 61 | 215 => 62 | 343 => 64 | n => n, fun | 28 => 64 | 3 => 3 | 46 => 58 | 0 => 0 | 51 => 108 | 53 => 24 | 4 => 4 | 183 => 100 | 182 => 99 | 131 => 105 | 5 => 5 | 9 => 9 | 218 => 109 | 222 => 113 | 228 => 117 | 229 => 118 | n => n, fun | n => n⟩
theorem Try.lays189 : Go.Proofs.Lays.n189 Try.prog Try.lays189_ren := {
  mixed := by kernel_rfl
  f125 := Try.func39.trans (congrArg some (by kernel_rfl))
  f128 := Try.func52.trans (congrArg some (by kernel_rfl))
  f129 := Try.func53.trans (congrArg some (by kernel_rfl))
  f189 := Try.func31.trans (congrArg some (by kernel_rfl))
  f215 := Try.func62.trans (congrArg some (by kernel_rfl))
  f216 := Try.func49.trans (congrArg some (by kernel_rfl))
  f257 := Try.func38.trans (congrArg some (by kernel_rfl))
  f294 := Try.func43.trans (congrArg some (by kernel_rfl))
  f295 := Try.func44.trans (congrArg some (by kernel_rfl))
  f296 := Try.func45.trans (congrArg some (by kernel_rfl))
  f297 := Try.func46.trans (congrArg some (by kernel_rfl))
  f298 := Try.func47.trans (congrArg some (by kernel_rfl))
  f299 := Try.func48.trans (congrArg some (by kernel_rfl))
  f300 := Try.func50.trans (congrArg some (by kernel_rfl))
  f301 := Try.func51.trans (congrArg some (by kernel_rfl))
  f328 := Try.func57.trans (congrArg some (by kernel_rfl))
  f329 := Try.func58.trans (congrArg some (by kernel_rfl))
  f330 := Try.func59.trans (congrArg some (by kernel_rfl))
  f331 := Try.func60.trans (congrArg some (by kernel_rfl))
  f332 := Try.func61.trans (congrArg some (by kernel_rfl))
  f343 := Try.func64.trans (congrArg some (by kernel_rfl))
  t0 := Try.underlying0
  a0 := Try.isAgg0
  z0 := Try.sizeOf0
  v0 := Try.zeroValue0
  t3 := Try.underlying3
  a3 := Try.isAgg3
  z3 := Try.sizeOf3
  v3 := Try.zeroValue3
  t4 := Try.underlying4
  a4 := Try.isAgg4
  z4 := Try.sizeOf4
  v4 := Try.zeroValue4
  t5 := Try.underlying5
  a5 := Try.isAgg5
  z5 := Try.sizeOf5
  v5 := Try.zeroValue5
  t9 := Try.underlying9
  a9 := Try.isAgg9
  z9 := Try.sizeOf9
  v9 := Try.zeroValue9
  t28 := Try.underlying64
  a28 := Try.isAgg64
  z28 := Try.sizeOf64
  v28 := Try.zeroValue64
  t46 := Try.underlying58
  a46 := Try.isAgg58
  z46 := Try.sizeOf58
  v46 := Try.zeroValue58
  t51 := Try.underlying108
  a51 := Try.isAgg108
  z51 := Try.sizeOf108
  v51 := Try.zeroValue108
  t53 := Try.underlying24
  a53 := Try.isAgg24
  z53 := Try.sizeOf24
  v53 := Try.zeroValue24
  t131 := Try.underlying105
  a131 := Try.isAgg105
  z131 := Try.sizeOf105
  v131 := Try.zeroValue105
  t182 := Try.underlying99
  a182 := Try.isAgg99
  z182 := Try.sizeOf99
  v182 := Try.zeroValue99
  t183 := Try.underlying100
  a183 := Try.isAgg100
  z183 := Try.sizeOf100
  v183 := Try.zeroValue100
  t218 := Try.underlying109
  a218 := Try.isAgg109
  z218 := Try.sizeOf109
  v218 := Try.zeroValue109
  t222 := Try.underlying113
  a222 := Try.isAgg113
  z222 := Try.sizeOf113
  v222 := Try.zeroValue113
  t228 := Try.underlying117
  a228 := Try.isAgg117
  z228 := Try.sizeOf117
  v228 := Try.zeroValue117
  t229 := Try.underlying118
  a229 := Try.isAgg118
  z229 := Try.sizeOf118
  v229 := Try.zeroValue118 }
open Go.Sort Go.RowKit in
theorem Try.slices_Sort_int (blk off cap : Nat) (zs : List Int) (w : World) (hH : Holds (Value.int .i64) w blk off zs.toArray) (hblk : blk < w.heap.size) (hsz : zs.length < 4611686018427387904) :
    Calls Try.prog 31 #[.slice (some ⟨blk, off, none⟩) zs.length cap] w fun e w' =>
      e = .returned (.tuple #[]) ∧ ∃ n os, w' = grow (putRow (Value.int .i64) (Sort.ahead w n) blk off (zs.mergeSort fun x y => decide (x ≤ y)).toArray) os := Any.slices_Sort_int Try.lays189 blk off cap zs w hH hblk hsz
open Go.RowKit Go.Sort in
/-- .. and plain. (LAID: no walk: one application.) -/
theorem Try.slices_Sort_int_none (p : Option Addr) (cap : Nat) (w : World) :
    Calls Try.prog 31 #[.slice p 0 cap] w fun e w' => e = .returned (.tuple #[]) ∧ w' = w := Any.slices_Sort_int_none Try.lays189 p cap w
end Go.Proofs
