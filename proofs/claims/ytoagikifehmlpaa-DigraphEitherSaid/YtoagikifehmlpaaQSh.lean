/-
  THE LIBRARY's CONTRACTS of sort.Ints and slices.Compact, laid at this program; the same as told calls.
-/
import Derived.Test.YtoagikifehmlpaaQU1
import Derived.Shelf.Sort.Plain
import Derived.Shelf.Slices.CompactI
namespace Go.Proofs
open Go.Shelf
def Try.lays191_ren : Go.Shelf.Ren := ⟨fun | 191 => 64 | 189 => 73 | 125 => 78 | 257 => 77 | 128 => 88 | 129 => 89 | 294 => 79 | 295 => 80 | 296 => 81 | 297 => 82 | 298 => 83 | 299 => 84 | 216 => 85 | 300 => 86 | 301 => 87 | 328 => 90 | 329 => 91 | 330 => 92 | 331 => 93 | 332 => 94 | 215 => 95 | 343 => 96 | n => n, fun | 28 => 33 | 0 => 0 | 3 => 3 | 46 => 95 | 51 => 99 | 53 => 102 | 4 => 4 | 183 => 109 | 182 => 108 | 131 => 89 | 5 => 5 | 9 => 9 | 218 => 116 | 222 => 120 | 228 => 122 | 229 => 123 | n => n, fun | n => n⟩
theorem Try.lays191 : Go.Proofs.Lays.n191 Try.prog Try.lays191_ren := {
 mixed := by kernel_rfl
 f125 := Try.func78.trans (congrArg some (by kernel_rfl))
 f128 := Try.func88.trans (congrArg some (by kernel_rfl))
 f129 := Try.func89.trans (congrArg some (by kernel_rfl))
 f189 := Try.func73.trans (congrArg some (by kernel_rfl))
 f191 := Try.func64.trans (congrArg some (by kernel_rfl))
 f215 := Try.func95.trans (congrArg some (by kernel_rfl))
 f216 := Try.func85.trans (congrArg some (by kernel_rfl))
 f257 := Try.func77.trans (congrArg some (by kernel_rfl))
 f294 := Try.func79.trans (congrArg some (by kernel_rfl))
 f295 := Try.func80.trans (congrArg some (by kernel_rfl))
 f296 := Try.func81.trans (congrArg some (by kernel_rfl))
 f297 := Try.func82.trans (congrArg some (by kernel_rfl))
 f298 := Try.func83.trans (congrArg some (by kernel_rfl))
 f299 := Try.func84.trans (congrArg some (by kernel_rfl))
 f300 := Try.func86.trans (congrArg some (by kernel_rfl))
 f301 := Try.func87.trans (congrArg some (by kernel_rfl))
 f328 := Try.func90.trans (congrArg some (by kernel_rfl))
 f329 := Try.func91.trans (congrArg some (by kernel_rfl))
 f330 := Try.func92.trans (congrArg some (by kernel_rfl))
 f331 := Try.func93.trans (congrArg some (by kernel_rfl))
 f332 := Try.func94.trans (congrArg some (by kernel_rfl))
 f343 := Try.func96.trans (congrArg some (by kernel_rfl))
 t0 := Try.underlying0
 a0 := Try.isAgg0
 z0 := Try.sizeOf0
 v0 := Try.zeroValue0
 t3 := Try.underlying3
 a3 := Try.isAgg3
 z3 := Try.sizeOf3
 v3 := Try.zeroValue3
 t4 := Try.underlying4
 a4 := Try.isAgg4
 z4 := Try.sizeOf4
 v4 := Try.zeroValue4
 t5 := Try.underlying5
 a5 := Try.isAgg5
 z5 := Try.sizeOf5
 v5 := Try.zeroValue5
 t9 := Try.underlying9
 a9 := Try.isAgg9
 z9 := Try.sizeOf9
 v9 := Try.zeroValue9
 t28 := Try.underlying33
 a28 := Try.isAgg33
 z28 := Try.sizeOf33
 v28 := Try.zeroValue33
 t46 := Try.underlying95
 a46 := Try.isAgg95
 z46 := Try.sizeOf95
 v46 := Try.zeroValue95
 t51 := Try.underlying99
 a51 := Try.isAgg99
 z51 := Try.sizeOf99
 v51 := Try.zeroValue99
 t53 := Try.underlying102
 a53 := Try.isAgg102
 z53 := Try.sizeOf102
 v53 := Try.zeroValue102
 t131 := Try.underlying89
 a131 := Try.isAgg89
 z131 := Try.sizeOf89
 v131 := Try.zeroValue89
 t182 := Try.underlying108
 a182 := Try.isAgg108
 z182 := Try.sizeOf108
 v182 := Try.zeroValue108
 t183 := Try.underlying109
 a183 := Try.isAgg109
 z183 := Try.sizeOf109
 v183 := Try.zeroValue109
 t218 := Try.underlying116
 a218 := Try.isAgg116
 z218 := Try.sizeOf116
 v218 := Try.zeroValue116
 t222 := Try.underlying120
 a222 := Try.isAgg120
 z222 := Try.sizeOf120
 v222 := Try.zeroValue120
 t228 := Try.underlying122
 a228 := Try.isAgg122
 z228 := Try.sizeOf122
 v228 := Try.zeroValue122
 t229 := Try.underlying123
 a229 := Try.isAgg123
 z229 := Try.sizeOf123
 v229 := Try.zeroValue123 }
open Go.Sort Go.RowKit in
theorem Try.sort_Ints (blk off cap : Nat) (zs : List Int) (w : World) (hH : Holds (Value.int .i64) w blk off zs.toArray) (hblk : blk < w.heap.size) (hsz : zs.length < 4611686018427387904) :
  Calls Try.prog 64 #[.slice (some ⟨blk, off, none⟩) zs.length cap] w fun e w' =>
   e = .returned (.tuple #[]) ∧ ∃ n os, w' = grow (putRow (Value.int .i64) (Sort.ahead w n) blk off (zs.mergeSort fun x y => decide (x ≤ y)).toArray) os := Any.sort_Ints Try.lays191 blk off cap zs w hH hblk hsz
def Try.laysNm220_ren : Go.Shelf.Ren := ⟨fun | 20 => 65 | n => n, fun | 22 => 33 | 3 => 3 | 4 => 4 | 0 => 0 | n => n, fun | n => n⟩
theorem Try.laysNm220 : Go.Proofs.Lays2.n20 Try.prog Try.laysNm220_ren := {
 mixed := by kernel_rfl
 f20 := Try.func65.trans (congrArg some (by kernel_rfl))
 t0 := Try.underlying0
 a0 := Try.isAgg0
 z0 := Try.sizeOf0
 v0 := Try.zeroValue0
 t3 := Try.underlying3
 a3 := Try.isAgg3
 z3 := Try.sizeOf3
 v3 := Try.zeroValue3
 t4 := Try.underlying4
 a4 := Try.isAgg4
 z4 := Try.sizeOf4
 v4 := Try.zeroValue4
 t22 := Try.underlying33
 a22 := Try.isAgg33
 z22 := Try.sizeOf33
 v22 := Try.zeroValue33
 i3 := by kernel_rfl }
open Go.RowKit Go.Lib Go.Sort in
theorem Try.slices_Compact_int (blk off cap : Nat) (zs : List Int) (w : World) (hH : Holds (Value.int .i64) w blk off zs.toArray) (hsz : zs.length ≤ 9223372036854775807) (hcap : zs.length ≤ cap) :
  Calls Try.prog 65 #[.slice (some ⟨blk, off, none⟩) zs.length cap] w fun e w' => e = .returned (.slice (some ⟨blk, off, none⟩) (Lib.compact zs).length cap) ∧ ∃ q, w' = putRow (Value.int .i64) (Sort.ahead w q) blk off (Lib.compact zs ++ List.replicate (zs.length - (Lib.compact zs).length) 0).toArray := Any.slices_Compact_int Try.laysNm220 blk off cap zs w hH hsz hcap
namespace Ytoagikifehmlpaa
open Go Go.Am Go.RowKit
theorem ent64 : Ent Try.prog 64 := zrj Try.func64 rfl (by kernel_rfl)
theorem ent65 : Ent Try.prog 65 := zrj Try.func65 rfl (by kernel_rfl)
theorem sorts64 : Sorts Try.prog 64 := fun blk off cap zs w hH hb hz => Try.sort_Ints blk off cap zs w hH hb hz
theorem cpts65 : Cpts Try.prog 65 := fun blk off cap zs w hH hz hc => Try.slices_Compact_int blk off cap zs w hH hz hc
end Ytoagikifehmlpaa
end Go.Proofs
