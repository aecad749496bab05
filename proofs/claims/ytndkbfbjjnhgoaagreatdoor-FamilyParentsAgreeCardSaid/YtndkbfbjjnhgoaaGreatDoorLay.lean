/- The library functions that the contracts in use reach lie in this translation as the library has them: printed by the kit's own program. -/
import Derived.Shelf.SlSortFuncK.WholeK
import Derived.Shelf.Strings.Search3
import Derived.Test.YtndkbfbjjnhgoaaGreatDoorProg
namespace Go.Proofs
open Go.Shelf
def Tryz.containsLay92_ren : Go.Shelf.Ren := ⟨fun | 144 => 92 | 143 => 116 | 219 => 129 | 217 => 132 | 225 => 133 | 224 => 134 | 267 => 135 | 266 => 136 | 314 => 137 | n => n, fun | 9 => 9 | 4 => 4 | 3 => 3 | 5 => 5 | 46 => 101 | 146 => 151 | 51 => 129 | n => n, fun | 1 => 3 | n => n⟩
theorem Tryz.containsLay92 : Go.Proofs.Lays.n144 Tryz.prog Tryz.containsLay92_ren := {
  mixed := by kernel_rfl
  f143 := Tryz.func116.trans (congrArg some (by kernel_rfl))
  f144 := Tryz.func92.trans (congrArg some (by kernel_rfl))
  f217 := Tryz.func132.trans (congrArg some (by kernel_rfl))
  f219 := Tryz.func129.trans (congrArg some (by kernel_rfl))
  f224 := Tryz.func134.trans (congrArg some (by kernel_rfl))
  f225 := Tryz.func133.trans (congrArg some (by kernel_rfl))
  f266 := Tryz.func136.trans (congrArg some (by kernel_rfl))
  f267 := Tryz.func135.trans (congrArg some (by kernel_rfl))
  f314 := Tryz.func137.trans (congrArg some (by kernel_rfl))
  t3 := Tryz.underlying3
  a3 := Tryz.isAgg3
  z3 := Tryz.sizeOf3
  v3 := Tryz.zeroValue3
  t4 := Tryz.underlying4
  a4 := Tryz.isAgg4
  z4 := Tryz.sizeOf4
  v4 := Tryz.zeroValue4
  t5 := Tryz.underlying5
  a5 := Tryz.isAgg5
  z5 := Tryz.sizeOf5
  v5 := Tryz.zeroValue5
  t9 := Tryz.underlying9
  a9 := Tryz.isAgg9
  z9 := Tryz.sizeOf9
  v9 := Tryz.zeroValue9
  t46 := Tryz.underlying101
  a46 := Tryz.isAgg101
  z46 := Tryz.sizeOf101
  v46 := Tryz.zeroValue101
  t51 := Tryz.underlying129
  a51 := Tryz.isAgg129
  z51 := Tryz.sizeOf129
  v51 := Tryz.zeroValue129
  t146 := Tryz.underlying151
  a146 := Tryz.isAgg151
  z146 := Tryz.sizeOf151
  v146 := Tryz.zeroValue151
  g1 := by kernel_rfl }
end Go.Proofs
