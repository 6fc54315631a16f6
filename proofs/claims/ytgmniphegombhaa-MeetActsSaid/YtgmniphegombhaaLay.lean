/-
  Proved here: the bodies of the sort in this program are the ones that the library's contract of slices.Sort at numbers was proved of (written by the kit's own tool).
-/
import Derived.Test.YtgmniphegombhaaProg
import Derived.Shelf.Lays
namespace Go.Proofs.Ytgmniphegombhaa
open Go Go.Shelf
def laysSort_ren : Go.Shelf.Ren := ⟨fun | 189 => 52 | 125 => 60 | 257 => 59 | 128 => 70 | 129 => 71 | 294 => 61 | 295 => 62 | 296 => 63 | 297 => 64 | 298 => 65 | 299 => 66 | 216 => 67 | 300 => 68 | 301 => 69 | 328 => 72 | 329 => 73 | 330 => 74 | 331 => 75 | 332 => 76 | 215 => 77 | 343 => 78 | n => n, fun | 28 => 27 | 3 => 3 | 46 => 103 | 0 => 0 | 51 => 114 | 53 => 116 | 4 => 4 | 183 => 106 | 182 => 105 | 131 => 111 | 5 => 5 | 9 => 9 | 218 => 117 | 222 => 121 | 228 => 123 | 229 => 90 | n => n, fun | n => n⟩
theorem laysSort : Go.Proofs.Lays.n189 Try.prog laysSort_ren := {
  mixed := by kernel_rfl
  f125 := Try.func60.trans (congrArg some (by kernel_rfl))
  f128 := Try.func70.trans (congrArg some (by kernel_rfl))
  f129 := Try.func71.trans (congrArg some (by kernel_rfl))
  f189 := Try.func52.trans (congrArg some (by kernel_rfl))
  f215 := Try.func77.trans (congrArg some (by kernel_rfl))
  f216 := Try.func67.trans (congrArg some (by kernel_rfl))
  f257 := Try.func59.trans (congrArg some (by kernel_rfl))
  f294 := Try.func61.trans (congrArg some (by kernel_rfl))
  f295 := Try.func62.trans (congrArg some (by kernel_rfl))
  f296 := Try.func63.trans (congrArg some (by kernel_rfl))
  f297 := Try.func64.trans (congrArg some (by kernel_rfl))
  f298 := Try.func65.trans (congrArg some (by kernel_rfl))
  f299 := Try.func66.trans (congrArg some (by kernel_rfl))
  f300 := Try.func68.trans (congrArg some (by kernel_rfl))
  f301 := Try.func69.trans (congrArg some (by kernel_rfl))
  f328 := Try.func72.trans (congrArg some (by kernel_rfl))
  f329 := Try.func73.trans (congrArg some (by kernel_rfl))
  f330 := Try.func74.trans (congrArg some (by kernel_rfl))
  f331 := Try.func75.trans (congrArg some (by kernel_rfl))
  f332 := Try.func76.trans (congrArg some (by kernel_rfl))
  f343 := Try.func78.trans (congrArg some (by kernel_rfl))
  t0 := Try.underlying0
  a0 := Try.isAgg0
  z0 := Try.sizeOf0
  v0 := Try.zeroValue0
  t3 := Try.underlying3
  a3 := Try.isAgg3
  z3 := Try.sizeOf3
  v3 := Try.zeroValue3
  t4 := Try.underlying4
  a4 := Try.isAgg4
  z4 := Try.sizeOf4
  v4 := Try.zeroValue4
  t5 := Try.underlying5
  a5 := Try.isAgg5
  z5 := Try.sizeOf5
  v5 := Try.zeroValue5
  t9 := Try.underlying9
  a9 := Try.isAgg9
  z9 := Try.sizeOf9
  v9 := Try.zeroValue9
  t28 := Try.underlying27
  a28 := Try.isAgg27
  z28 := Try.sizeOf27
  v28 := Try.zeroValue27
  t46 := Try.underlying103
  a46 := Try.isAgg103
  z46 := Try.sizeOf103
  v46 := Try.zeroValue103
  t51 := Try.underlying114
  a51 := Try.isAgg114
  z51 := Try.sizeOf114
  v51 := Try.zeroValue114
  t53 := Try.underlying116
  a53 := Try.isAgg116
  z53 := Try.sizeOf116
  v53 := Try.zeroValue116
  t131 := Try.underlying111
  a131 := Try.isAgg111
  z131 := Try.sizeOf111
  v131 := Try.zeroValue111
  t182 := Try.underlying105
  a182 := Try.isAgg105
  z182 := Try.sizeOf105
  v182 := Try.zeroValue105
  t183 := Try.underlying106
  a183 := Try.isAgg106
  z183 := Try.sizeOf106
  v183 := Try.zeroValue106
  t218 := Try.underlying117
  a218 := Try.isAgg117
  z218 := Try.sizeOf117
  v218 := Try.zeroValue117
  t222 := Try.underlying121
  a222 := Try.isAgg121
  z222 := Try.sizeOf121
  v222 := Try.zeroValue121
  t228 := Try.underlying123
  a228 := Try.isAgg123
  z228 := Try.sizeOf123
  v228 := Try.zeroValue123
  t229 := Try.underlying90
  a229 := Try.isAgg90
  z229 := Try.sizeOf90
  v229 := Try.zeroValue90 }
end Go.Proofs.Ytgmniphegombhaa
