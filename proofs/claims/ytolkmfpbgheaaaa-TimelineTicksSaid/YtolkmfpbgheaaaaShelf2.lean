/-
  The library's contracts on slices.SortFunc and slices.DeleteFunc, at this program's numbers.
-/
import Derived.Shelf.SlSortCmp.WholeK
import Derived.Shelf.SlicesE.DeleteFunc
import Derived.Ground.SlsfProg
import Derived.Ground.SlgfProg
import Derived.Test.YtolkmfpbgheaaaaProg
namespace Go.Proofs.Ytolkmfpbgheaaaa
open Go.Shelf
def Try.sortIv_ren : Go.Shelf.Ren := ⟨fun | 6 => 28 | 15 => 42 | 14 => 41 | 28 => 55 | 29 => 56 | 20 => 47 | 21 => 48 | 22 => 49 | 23 => 50 | 24 => 51 | 25 => 52 | 26 => 53 | 27 => 54 | 46 => 58 | 47 => 59 | 48 => 60 | 49 => 61 | 50 => 62 | 57 => 72 | n => n, fun | 22 => 24 | 24 => 23 | 25 => 49 | 3 => 3 | 39 => 61 | 0 => 0 | 53 => 73 | 55 => 75 | 4 => 4 | 46 => 66 | 45 => 65 | 50 => 70 | 5 => 5 | 9 => 9 | 66 => 77 | 70 => 81 | 76 => 88 | 77 => 89 | n => n, fun | n => n⟩
theorem Try.sortIv : Go.Proofs.SlLaysF0.n6 Try.prog Try.sortIv_ren := {
  mixed := by kernel_rfl
  f6 := ⟨Try.f28.name, by decide, Try.func28.trans (congrArg some (by kernel_rfl))⟩
  f14 := ⟨Try.f41.name, by decide, Try.func41.trans (congrArg some (by kernel_rfl))⟩
  f15 := Try.func42.trans (congrArg some (by kernel_rfl))
  f20 := ⟨Try.f47.name, by decide, Try.func47.trans (congrArg some (by kernel_rfl))⟩
  f21 := ⟨Try.f48.name, by decide, Try.func48.trans (congrArg some (by kernel_rfl))⟩
  f22 := ⟨Try.f49.name, by decide, Try.func49.trans (congrArg some (by kernel_rfl))⟩
  f23 := ⟨Try.f50.name, by decide, Try.func50.trans (congrArg some (by kernel_rfl))⟩
  f24 := ⟨Try.f51.name, by decide, Try.func51.trans (congrArg some (by kernel_rfl))⟩
  f25 := ⟨Try.f52.name, by decide, Try.func52.trans (congrArg some (by kernel_rfl))⟩
  f26 := ⟨Try.f53.name, by decide, Try.func53.trans (congrArg some (by kernel_rfl))⟩
  f27 := ⟨Try.f54.name, by decide, Try.func54.trans (congrArg some (by kernel_rfl))⟩
  f28 := Try.func55.trans (congrArg some (by kernel_rfl))
  f29 := Try.func56.trans (congrArg some (by kernel_rfl))
  f46 := ⟨Try.f58.name, by decide, Try.func58.trans (congrArg some (by kernel_rfl))⟩
  f47 := Try.func59.trans (congrArg some (by kernel_rfl))
  f48 := Try.func60.trans (congrArg some (by kernel_rfl))
  f49 := ⟨Try.f61.name, by decide, Try.func61.trans (congrArg some (by kernel_rfl))⟩
  f50 := ⟨Try.f62.name, by decide, Try.func62.trans (congrArg some (by kernel_rfl))⟩
  f57 := ⟨Try.f72.name, by decide, Try.func72.trans (congrArg some (by kernel_rfl))⟩
  t0 := Try.underlying0
  a0 := Try.isAgg0
  z0 := Try.sizeOf0
  v0 := Try.zeroValue0
  t3 := Try.underlying3
  a3 := Try.isAgg3
  z3 := Try.sizeOf3
  v3 := Try.zeroValue3
  t4 := Try.underlying4
  a4 := Try.isAgg4
  z4 := Try.sizeOf4
  v4 := Try.zeroValue4
  t5 := Try.underlying5
  a5 := Try.isAgg5
  z5 := Try.sizeOf5
  v5 := Try.zeroValue5
  t9 := Try.underlying9
  a9 := Try.isAgg9
  z9 := Try.sizeOf9
  v9 := Try.zeroValue9
  t22 := Try.underlying24
  a22 := Try.isAgg24
  z22 := Try.sizeOf24
  v22 := Try.zeroValue24
  t25 := Try.underlying49
  a25 := Try.isAgg49
  z25 := Try.sizeOf49
  v25 := Try.zeroValue49
  t39 := Try.underlying61
  a39 := Try.isAgg61
  z39 := Try.sizeOf61
  v39 := Try.zeroValue61
  t45 := Try.underlying65
  a45 := Try.isAgg65
  z45 := Try.sizeOf65
  v45 := Try.zeroValue65
  t46 := Try.underlying66
  a46 := Try.isAgg66
  z46 := Try.sizeOf66
  v46 := Try.zeroValue66
  t50 := Try.underlying70
  a50 := Try.isAgg70
  z50 := Try.sizeOf70
  v50 := Try.zeroValue70
  t53 := Try.underlying73
  a53 := Try.isAgg73
  z53 := Try.sizeOf73
  v53 := Try.zeroValue73
  t55 := Try.underlying75
  a55 := Try.isAgg75
  z55 := Try.sizeOf75
  v55 := Try.zeroValue75
  t66 := Try.underlying77
  a66 := Try.isAgg77
  z66 := Try.sizeOf77
  v66 := Try.zeroValue77
  t70 := Try.underlying81
  a70 := Try.isAgg81
  z70 := Try.sizeOf81
  v70 := Try.zeroValue81
  t76 := Try.underlying88
  a76 := Try.isAgg88
  z76 := Try.sizeOf88
  v76 := Try.zeroValue88
  t77 := Try.underlying89
  a77 := Try.isAgg89
  z77 := Try.sizeOf89
  v77 := Try.zeroValue89 }
def Try.delFunc_ren : Go.Shelf.Ren := ⟨fun | 10 => 38 | 6 => 46 | n => n, fun | 22 => 40 | 23 => 3 | 25 => 53 | 3 => 3 | 4 => 4 | 0 => 0 | n => n, fun | n => n⟩
theorem Try.delFunc : Go.Proofs.SlLaysH.n10 Try.prog Try.delFunc_ren := {
  mixed := by kernel_rfl
  f6 := ⟨Try.f46.name, by decide, Try.func46.trans (congrArg some (by kernel_rfl))⟩
  f10 := ⟨Try.f38.name, by decide, Try.func38.trans (congrArg some (by kernel_rfl))⟩
  t0 := Try.underlying0
  a0 := Try.isAgg0
  z0 := Try.sizeOf0
  v0 := Try.zeroValue0
  t3 := Try.underlying3
  a3 := Try.isAgg3
  z3 := Try.sizeOf3
  v3 := Try.zeroValue3
  t4 := Try.underlying4
  a4 := Try.isAgg4
  z4 := Try.sizeOf4
  v4 := Try.zeroValue4
  t22 := Try.underlying40
  a22 := Try.isAgg40
  z22 := Try.sizeOf40
  v22 := Try.zeroValue40
  a23 := Try.isAgg3
  z23 := Try.sizeOf3
  t25 := Try.underlying53
  a25 := Try.isAgg53
  z25 := Try.sizeOf53
  v25 := Try.zeroValue53 }
end Go.Proofs.Ytolkmfpbgheaaaa
