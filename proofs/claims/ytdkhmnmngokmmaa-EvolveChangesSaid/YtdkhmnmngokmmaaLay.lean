/-
  The shelf's contracts for maps.Keys, slices.Sorted, slices.Sort, maps.Clone, laid at this translation by the kit's lay-plain.
-/
import Derived.Shelf.SlIter.Nil
import Derived.Shelf.SlIterI.Nil
import Derived.Shelf.SlIterI.Sorted
import Derived.Shelf.SortM.Plain
import Derived.Shelf.SortM.SortNone
import Derived.Shelf.SlMaps.Clone
import Derived.Shelf.SlMaps.Copy
import Derived.Ground.GgzProg
import Derived.Ground.SlgmProg
import Derived.Ground.SlmcProg
import Derived.Ground.SlmpProg
import Derived.Test.YtdkhmnmngokmmaaProg
namespace Go.Proofs
open Go.Shelf
def Try.keysA_ren : Go.Shelf.Ren := ⟨fun | 7 => 32 | 10 => 41 | n => n, fun | 23 => 67 | 26 => 3 | 3 => 38 | 28 => 73 | 0 => 0 | 27 => 72 | 33 => 77 | 4 => 4 | n => n, fun | n => n⟩
theorem Try.keysA : Go.Proofs.SlLaysZI.n7 Try.prog Try.keysA_ren := {
  mixed := by kernel_rfl
  f7 := ⟨Try.f32.name, by decide, Try.func32.trans (congrArg some (by kernel_rfl))⟩
  f10 := ⟨Try.f41.name, by decide, Try.func41.trans (congrArg some (by kernel_rfl))⟩
  t0 := Try.underlying0
  a0 := Try.isAgg0
  z0 := Try.sizeOf0
  v0 := Try.zeroValue0
  t4 := Try.underlying4
  a4 := Try.isAgg4
  z4 := Try.sizeOf4
  v4 := Try.zeroValue4
  t23 := Try.underlying67
  a23 := Try.isAgg67
  z23 := Try.sizeOf67
  v23 := Try.zeroValue67
  t26 := Try.underlying3
  a26 := Try.isAgg3
  z26 := Try.sizeOf3
  v26 := Try.zeroValue3
  t27 := Try.underlying72
  a27 := Try.isAgg72
  z27 := Try.sizeOf72
  v27 := Try.zeroValue72
  t28 := Try.underlying73
  a28 := Try.isAgg73
  z28 := Try.sizeOf73
  v28 := Try.zeroValue73
  t33 := Try.underlying77
  a33 := Try.isAgg77
  z33 := Try.sizeOf77
  v33 := Try.zeroValue77 }
def Try.sortedA_ren : Go.Shelf.Ren := ⟨fun | 6 => 31 | 8 => 39 | 9 => 40 | 11 => 47 | 13 => 49 | 12 => 48 | 23 => 60 | 24 => 61 | 14 => 51 | 15 => 52 | 16 => 53 | 17 => 54 | 18 => 55 | 19 => 56 | 20 => 57 | 21 => 58 | 22 => 59 | 25 => 63 | 26 => 64 | 27 => 65 | 28 => 66 | 29 => 67 | 30 => 68 | 31 => 69 | n => n, fun | 26 => 3 | 28 => 73 | 24 => 52 | 0 => 0 | 3 => 3 | 37 => 91 | 48 => 103 | 50 => 105 | 4 => 4 | 40 => 95 | 39 => 94 | 45 => 100 | 5 => 5 | 9 => 9 | 51 => 111 | 55 => 115 | 57 => 117 | 58 => 118 | 33 => 77 | n => n, fun | n => n⟩
theorem Try.sortedA : Go.Proofs.SlLaysZI.n6 Try.prog Try.sortedA_ren := {
  mixed := by kernel_rfl
  f6 := ⟨Try.f31.name, by decide, Try.func31.trans (congrArg some (by kernel_rfl))⟩
  f8 := ⟨Try.f39.name, by decide, Try.func39.trans (congrArg some (by kernel_rfl))⟩
  f11 := ⟨Try.f47.name, by decide, Try.func47.trans (congrArg some (by kernel_rfl))⟩
  t0 := Try.underlying0
  a0 := Try.isAgg0
  z0 := Try.sizeOf0
  v0 := Try.zeroValue0
  t24 := Try.underlying52
  a24 := Try.isAgg52
  z24 := Try.sizeOf52
  v24 := Try.zeroValue52
  t26 := Try.underlying3
  a26 := Try.isAgg3
  z26 := Try.sizeOf3
  v26 := Try.zeroValue3
  t28 := Try.underlying73
  a28 := Try.isAgg73
  z28 := Try.sizeOf73
  v28 := Try.zeroValue73
  i26 := by kernel_rfl }
def Try.sortA_ren : Go.Shelf.Ren := ⟨fun | 5 => 40 | 8 => 49 | 7 => 48 | 19 => 60 | 20 => 61 | 10 => 51 | 11 => 52 | 12 => 53 | 13 => 54 | 14 => 55 | 15 => 56 | 16 => 57 | 17 => 58 | 18 => 59 | 30 => 63 | 31 => 64 | 32 => 65 | 33 => 66 | 34 => 67 | 35 => 68 | 40 => 69 | n => n, fun | 23 => 52 | 25 => 3 | 3 => 3 | 32 => 91 | 22 => 52 | 0 => 0 | 44 => 103 | 46 => 105 | 4 => 4 | 36 => 95 | 35 => 94 | 41 => 100 | 5 => 5 | 9 => 9 | 53 => 111 | 57 => 115 | 63 => 117 | 64 => 118 | n => n, fun | n => n⟩
theorem Try.sortA : Go.Proofs.SlLaysM.n5 Try.prog Try.sortA_ren := {
  mixed := by kernel_rfl
  f5 := ⟨Try.f40.name, by decide, Try.func40.trans (congrArg some (by kernel_rfl))⟩
  f7 := ⟨Try.f48.name, by decide, Try.func48.trans (congrArg some (by kernel_rfl))⟩
  f8 := Try.func49.trans (congrArg some (by kernel_rfl))
  f10 := ⟨Try.f51.name, by decide, Try.func51.trans (congrArg some (by kernel_rfl))⟩
  f11 := ⟨Try.f52.name, by decide, Try.func52.trans (congrArg some (by kernel_rfl))⟩
  f12 := ⟨Try.f53.name, by decide, Try.func53.trans (congrArg some (by kernel_rfl))⟩
  f13 := ⟨Try.f54.name, by decide, Try.func54.trans (congrArg some (by kernel_rfl))⟩
  f14 := ⟨Try.f55.name, by decide, Try.func55.trans (congrArg some (by kernel_rfl))⟩
  f15 := ⟨Try.f56.name, by decide, Try.func56.trans (congrArg some (by kernel_rfl))⟩
  f16 := ⟨Try.f57.name, by decide, Try.func57.trans (congrArg some (by kernel_rfl))⟩
  f17 := ⟨Try.f58.name, by decide, Try.func58.trans (congrArg some (by kernel_rfl))⟩
  f18 := ⟨Try.f59.name, by decide, Try.func59.trans (congrArg some (by kernel_rfl))⟩
  f19 := Try.func60.trans (congrArg some (by kernel_rfl))
  f20 := Try.func61.trans (congrArg some (by kernel_rfl))
  f30 := ⟨Try.f63.name, by decide, Try.func63.trans (congrArg some (by kernel_rfl))⟩
  f31 := Try.func64.trans (congrArg some (by kernel_rfl))
  f32 := Try.func65.trans (congrArg some (by kernel_rfl))
  f33 := ⟨Try.f66.name, by decide, Try.func66.trans (congrArg some (by kernel_rfl))⟩
  f34 := ⟨Try.f67.name, by decide, Try.func67.trans (congrArg some (by kernel_rfl))⟩
  f35 := ⟨Try.f68.name, by decide, Try.func68.trans (congrArg some (by kernel_rfl))⟩
  f40 := ⟨Try.f69.name, by decide, Try.func69.trans (congrArg some (by kernel_rfl))⟩
  t0 := Try.underlying0
  a0 := Try.isAgg0
  z0 := Try.sizeOf0
  v0 := Try.zeroValue0
  t3 := Try.underlying3
  a3 := Try.isAgg3
  z3 := Try.sizeOf3
  v3 := Try.zeroValue3
  t4 := Try.underlying4
  a4 := Try.isAgg4
  z4 := Try.sizeOf4
  v4 := Try.zeroValue4
  t5 := Try.underlying5
  a5 := Try.isAgg5
  z5 := Try.sizeOf5
  v5 := Try.zeroValue5
  t9 := Try.underlying9
  a9 := Try.isAgg9
  z9 := Try.sizeOf9
  v9 := Try.zeroValue9
  t22 := Try.underlying52
  a22 := Try.isAgg52
  z22 := Try.sizeOf52
  v22 := Try.zeroValue52
  t23 := Try.underlying52
  a23 := Try.isAgg52
  z23 := Try.sizeOf52
  v23 := Try.zeroValue52
  t25 := Try.underlying3
  a25 := Try.isAgg3
  z25 := Try.sizeOf3
  v25 := Try.zeroValue3
  t32 := Try.underlying91
  a32 := Try.isAgg91
  z32 := Try.sizeOf91
  v32 := Try.zeroValue91
  t35 := Try.underlying94
  a35 := Try.isAgg94
  z35 := Try.sizeOf94
  v35 := Try.zeroValue94
  t36 := Try.underlying95
  a36 := Try.isAgg95
  z36 := Try.sizeOf95
  v36 := Try.zeroValue95
  t41 := Try.underlying100
  a41 := Try.isAgg100
  z41 := Try.sizeOf100
  v41 := Try.zeroValue100
  t44 := Try.underlying103
  a44 := Try.isAgg103
  z44 := Try.sizeOf103
  v44 := Try.zeroValue103
  t46 := Try.underlying105
  a46 := Try.isAgg105
  z46 := Try.sizeOf105
  v46 := Try.zeroValue105
  t53 := Try.underlying111
  a53 := Try.isAgg111
  z53 := Try.sizeOf111
  v53 := Try.zeroValue111
  t57 := Try.underlying115
  a57 := Try.isAgg115
  z57 := Try.sizeOf115
  v57 := Try.zeroValue115
  t63 := Try.underlying117
  a63 := Try.isAgg117
  z63 := Try.sizeOf117
  v63 := Try.zeroValue117
  t64 := Try.underlying118
  a64 := Try.isAgg118
  z64 := Try.sizeOf118
  v64 := Try.zeroValue118 }
def Try.cloneA_ren : Go.Shelf.Ren := ⟨fun | 5 => 29 | 7 => 38 | n => n, fun | 23 => 67 | 25 => 3 | 3 => 38 | 4 => 4 | 20 => 20 | n => n, fun | n => n⟩
theorem Try.cloneA : Go.Proofs.SlLaysW.n5 Try.prog Try.cloneA_ren := {
  mixed := by kernel_rfl
  f5 := ⟨Try.f29.name, by decide, Try.func29.trans (congrArg some (by kernel_rfl))⟩
  f7 := Try.func38.trans (congrArg some (by kernel_rfl))
  t4 := Try.underlying4
  a4 := Try.isAgg4
  z4 := Try.sizeOf4
  v4 := Try.zeroValue4
  t20 := Try.underlying20
  a20 := Try.isAgg20
  z20 := Try.sizeOf20
  v20 := Try.zeroValue20
  t23 := Try.underlying67
  a23 := Try.isAgg67
  z23 := Try.sizeOf67
  v23 := Try.zeroValue67 }
end Go.Proofs
