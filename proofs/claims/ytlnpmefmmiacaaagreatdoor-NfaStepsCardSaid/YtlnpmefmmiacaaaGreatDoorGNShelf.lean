/- slices.Sort and slices.Compact of this program: the library's contracts, by their bodies (tables printed by the kit's tool). -/
import Derived.Test.YtlnpmefmmiacaaaGreatDoorGSortK
import Derived.Test.YtlnpmefmmiacaaaGreatDoorYTryzP
import Derived.Shelf.Sort.Plain
import Derived.Shelf.Slices.CompactI
import Derived.Shelf.Slices.In.SortNone
namespace Go.Proofs
open Go.Shelf
def Tryz.lays189_ren : Go.Shelf.Ren := ⟨fun | 189 => 36 | 125 => 51 | 257 => 50 | 128 => 71 | 129 => 72 | 294 => 62 | 295 => 63 | 296 => 64 | 297 => 65 | 298 => 66 | 299 => 67 | 216 => 68 | 300 => 69 | 301 => 70 | 328 => 83 | 329 => 84 | 330 => 85 | 331 => 86 | 332 => 87 | 215 => 88 | 343 => 98 | n => n, fun | 28 => 23 | 3 => 3 | 46 => 66 | 0 => 0 | 51 => 103 | 53 => 35 | 4 => 4 | 183 => 95 | 182 => 94 | 131 => 100 | 5 => 5 | 9 => 9 | 218 => 118 | 222 => 122 | 228 => 135 | 229 => 105 | n => n, fun | n => n⟩
theorem Tryz.lays189 : Go.Proofs.Lays.n189 Tryz.prog Tryz.lays189_ren := {
  mixed := by kernel_rfl
  f125 := Tryz.func51.trans (congrArg some (by kernel_rfl))
  f128 := Tryz.func71.trans (congrArg some (by kernel_rfl))
  f129 := Tryz.func72.trans (congrArg some (by kernel_rfl))
  f189 := Tryz.func36.trans (congrArg some (by kernel_rfl))
  f215 := Tryz.func88.trans (congrArg some (by kernel_rfl))
  f216 := Tryz.func68.trans (congrArg some (by kernel_rfl))
  f257 := Tryz.func50.trans (congrArg some (by kernel_rfl))
  f294 := Tryz.func62.trans (congrArg some (by kernel_rfl))
  f295 := Tryz.func63.trans (congrArg some (by kernel_rfl))
  f296 := Tryz.func64.trans (congrArg some (by kernel_rfl))
  f297 := Tryz.func65.trans (congrArg some (by kernel_rfl))
  f298 := Tryz.func66.trans (congrArg some (by kernel_rfl))
  f299 := Tryz.func67.trans (congrArg some (by kernel_rfl))
  f300 := Tryz.func69.trans (congrArg some (by kernel_rfl))
  f301 := Tryz.func70.trans (congrArg some (by kernel_rfl))
  f328 := Tryz.func83.trans (congrArg some (by kernel_rfl))
  f329 := Tryz.func84.trans (congrArg some (by kernel_rfl))
  f330 := Tryz.func85.trans (congrArg some (by kernel_rfl))
  f331 := Tryz.func86.trans (congrArg some (by kernel_rfl))
  f332 := Tryz.func87.trans (congrArg some (by kernel_rfl))
  f343 := Tryz.func98.trans (congrArg some (by kernel_rfl))
  t0 := Tryz.underlying0
  a0 := Tryz.isAgg0
  z0 := Tryz.sizeOf0
  v0 := Tryz.zeroValue0
  t3 := Tryz.underlying3
  a3 := Tryz.isAgg3
  z3 := Tryz.sizeOf3
  v3 := Tryz.zeroValue3
  t4 := Tryz.underlying4
  a4 := Tryz.isAgg4
  z4 := Tryz.sizeOf4
  v4 := Tryz.zeroValue4
  t5 := Tryz.underlying5
  a5 := Tryz.isAgg5
  z5 := Tryz.sizeOf5
  v5 := Tryz.zeroValue5
  t9 := Tryz.underlying9
  a9 := Tryz.isAgg9
  z9 := Tryz.sizeOf9
  v9 := Tryz.zeroValue9
  t28 := Tryz.underlying23
  a28 := Tryz.isAgg23
  z28 := Tryz.sizeOf23
  v28 := Tryz.zeroValue23
  t46 := Tryz.underlying66
  a46 := Tryz.isAgg66
  z46 := Tryz.sizeOf66
  v46 := Tryz.zeroValue66
  t51 := Tryz.underlying103
  a51 := Tryz.isAgg103
  z51 := Tryz.sizeOf103
  v51 := Tryz.zeroValue103
  t53 := Tryz.underlying35
  a53 := Tryz.isAgg35
  z53 := Tryz.sizeOf35
  v53 := Tryz.zeroValue35
  t131 := Tryz.underlying100
  a131 := Tryz.isAgg100
  z131 := Tryz.sizeOf100
  v131 := Tryz.zeroValue100
  t182 := Tryz.underlying94
  a182 := Tryz.isAgg94
  z182 := Tryz.sizeOf94
  v182 := Tryz.zeroValue94
  t183 := Tryz.underlying95
  a183 := Tryz.isAgg95
  z183 := Tryz.sizeOf95
  v183 := Tryz.zeroValue95
  t218 := Tryz.underlying118
  a218 := Tryz.isAgg118
  z218 := Tryz.sizeOf118
  v218 := Tryz.zeroValue118
  t222 := Tryz.underlying122
  a222 := Tryz.isAgg122
  z222 := Tryz.sizeOf122
  v222 := Tryz.zeroValue122
  t228 := Tryz.underlying135
  a228 := Tryz.isAgg135
  z228 := Tryz.sizeOf135
  v228 := Tryz.zeroValue135
  t229 := Tryz.underlying105
  a229 := Tryz.isAgg105
  z229 := Tryz.sizeOf105
  v229 := Tryz.zeroValue105 }
def Tryz.laysNm220_ren : Go.Shelf.Ren := ⟨fun | 20 => 37 | n => n, fun | 22 => 23 | 3 => 3 | 4 => 4 | 0 => 0 | n => n, fun | n => n⟩
theorem Tryz.laysNm220 : Go.Proofs.Lays2.n20 Tryz.prog Tryz.laysNm220_ren := {
  mixed := by kernel_rfl
  f20 := Tryz.func37.trans (congrArg some (by kernel_rfl))
  t0 := Tryz.underlying0
  a0 := Tryz.isAgg0
  z0 := Tryz.sizeOf0
  v0 := Tryz.zeroValue0
  t3 := Tryz.underlying3
  a3 := Tryz.isAgg3
  z3 := Tryz.sizeOf3
  v3 := Tryz.zeroValue3
  t4 := Tryz.underlying4
  a4 := Tryz.isAgg4
  z4 := Tryz.sizeOf4
  v4 := Tryz.zeroValue4
  t22 := Tryz.underlying23
  a22 := Tryz.isAgg23
  z22 := Tryz.sizeOf23
  v22 := Tryz.zeroValue23
  i3 := by kernel_rfl }
end Go.Proofs
namespace Go.Y
open Go.Proofs
theorem sorts36 : SortSays Tryz.Y.P 36 := ⟨fun blk off cap zs w h1 h2 h3 => Any.slices_Sort_int Tryz.lays189 blk off cap zs w h1 h2 h3, fun w => Any.slices_Sort_int_none Tryz.lays189 none 0 w⟩
theorem compacts37 : CompactSays Tryz.Y.P 37 := ⟨fun blk off cap zs w h1 h2 h3 => Any.slices_Compact_int Tryz.laysNm220 blk off cap zs w h1 h2 h3, fun w => Any.slices_Compact_int_empty Tryz.laysNm220 none 0 w⟩
end Go.Y
