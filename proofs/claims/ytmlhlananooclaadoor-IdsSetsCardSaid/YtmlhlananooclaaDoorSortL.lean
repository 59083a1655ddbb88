/- The library's sort and clone at this dump, laid by the shelf's own tool in plain declarations. -/
import Derived.Shelf.SlGeneric
import Derived.Shelf.SlSortCmp.NoneTotal
import Derived.Shelf.SlicesE.Clone
import Derived.Shelf.Small.Bits
import Derived.Ground.SlsfProg
import Derived.Ground.SlgnProg
import Derived.Test.YtmlhlananooclaaDoorProg
namespace Go.Proofs
open Go.Shelf
def Tryd.sortIds_ren : Go.Shelf.Ren := ⟨fun | 6 => 27 | 15 => 40 | 14 => 39 | 28 => 53 | 29 => 54 | 20 => 45 | 21 => 46 | 22 => 47 | 23 => 48 | 24 => 49 | 25 => 50 | 26 => 51 | 27 => 52 | 46 => 56 | 47 => 57 | 48 => 58 | 49 => 59 | 50 => 60 | 57 => 65 | n => n, fun | 22 => 22 | 24 => 24 | 25 => 38 | 3 => 3 | 39 => 49 | 0 => 0 | 53 => 64 | 55 => 66 | 4 => 4 | 46 => 58 | 45 => 57 | 50 => 41 | 5 => 5 | 9 => 9 | 66 => 68 | 70 => 72 | 76 => 78 | 77 => 79 | n => n, fun | n => n⟩
theorem Tryd.sortIds : Go.Proofs.SlLaysF0.n6 Tryd.prog Tryd.sortIds_ren := {
  mixed := by kernel_rfl
  f6 := ⟨Tryd.f27.name, by decide, Tryd.func27.trans (congrArg some (by kernel_rfl))⟩
  f14 := ⟨Tryd.f39.name, by decide, Tryd.func39.trans (congrArg some (by kernel_rfl))⟩
  f15 := Tryd.func40.trans (congrArg some (by kernel_rfl))
  f20 := ⟨Tryd.f45.name, by decide, Tryd.func45.trans (congrArg some (by kernel_rfl))⟩
  f21 := ⟨Tryd.f46.name, by decide, Tryd.func46.trans (congrArg some (by kernel_rfl))⟩
  f22 := ⟨Tryd.f47.name, by decide, Tryd.func47.trans (congrArg some (by kernel_rfl))⟩
  f23 := ⟨Tryd.f48.name, by decide, Tryd.func48.trans (congrArg some (by kernel_rfl))⟩
  f24 := ⟨Tryd.f49.name, by decide, Tryd.func49.trans (congrArg some (by kernel_rfl))⟩
  f25 := ⟨Tryd.f50.name, by decide, Tryd.func50.trans (congrArg some (by kernel_rfl))⟩
  f26 := ⟨Tryd.f51.name, by decide, Tryd.func51.trans (congrArg some (by kernel_rfl))⟩
  f27 := ⟨Tryd.f52.name, by decide, Tryd.func52.trans (congrArg some (by kernel_rfl))⟩
  f28 := Tryd.func53.trans (congrArg some (by kernel_rfl))
  f29 := Tryd.func54.trans (congrArg some (by kernel_rfl))
  f46 := ⟨Tryd.f56.name, by decide, Tryd.func56.trans (congrArg some (by kernel_rfl))⟩
  f47 := Tryd.func57.trans (congrArg some (by kernel_rfl))
  f48 := Tryd.func58.trans (congrArg some (by kernel_rfl))
  f49 := ⟨Tryd.f59.name, by decide, Tryd.func59.trans (congrArg some (by kernel_rfl))⟩
  f50 := ⟨Tryd.f60.name, by decide, Tryd.func60.trans (congrArg some (by kernel_rfl))⟩
  f57 := ⟨Tryd.f65.name, by decide, Tryd.func65.trans (congrArg some (by kernel_rfl))⟩
  t0 := Tryd.underlying0
  a0 := Tryd.isAgg0
  z0 := Tryd.sizeOf0
  v0 := Tryd.zeroValue0
  t3 := Tryd.underlying3
  a3 := Tryd.isAgg3
  z3 := Tryd.sizeOf3
  v3 := Tryd.zeroValue3
  t4 := Tryd.underlying4
  a4 := Tryd.isAgg4
  z4 := Tryd.sizeOf4
  v4 := Tryd.zeroValue4
  t5 := Tryd.underlying5
  a5 := Tryd.isAgg5
  z5 := Tryd.sizeOf5
  v5 := Tryd.zeroValue5
  t9 := Tryd.underlying9
  a9 := Tryd.isAgg9
  z9 := Tryd.sizeOf9
  v9 := Tryd.zeroValue9
  t22 := Tryd.underlying22
  a22 := Tryd.isAgg22
  z22 := Tryd.sizeOf22
  v22 := Tryd.zeroValue22
  t25 := Tryd.underlying38
  a25 := Tryd.isAgg38
  z25 := Tryd.sizeOf38
  v25 := Tryd.zeroValue38
  t39 := Tryd.underlying49
  a39 := Tryd.isAgg49
  z39 := Tryd.sizeOf49
  v39 := Tryd.zeroValue49
  t45 := Tryd.underlying57
  a45 := Tryd.isAgg57
  z45 := Tryd.sizeOf57
  v45 := Tryd.zeroValue57
  t46 := Tryd.underlying58
  a46 := Tryd.isAgg58
  z46 := Tryd.sizeOf58
  v46 := Tryd.zeroValue58
  t50 := Tryd.underlying41
  a50 := Tryd.isAgg41
  z50 := Tryd.sizeOf41
  v50 := Tryd.zeroValue41
  t53 := Tryd.underlying64
  a53 := Tryd.isAgg64
  z53 := Tryd.sizeOf64
  v53 := Tryd.zeroValue64
  t55 := Tryd.underlying66
  a55 := Tryd.isAgg66
  z55 := Tryd.sizeOf66
  v55 := Tryd.zeroValue66
  t66 := Tryd.underlying68
  a66 := Tryd.isAgg68
  z66 := Tryd.sizeOf68
  v66 := Tryd.zeroValue68
  t70 := Tryd.underlying72
  a70 := Tryd.isAgg72
  z70 := Tryd.sizeOf72
  v70 := Tryd.zeroValue72
  t76 := Tryd.underlying78
  a76 := Tryd.isAgg78
  z76 := Tryd.sizeOf78
  v76 := Tryd.zeroValue78
  t77 := Tryd.underlying79
  a77 := Tryd.isAgg79
  z77 := Tryd.sizeOf79
  v77 := Tryd.zeroValue79 }
def Tryd.cloneIds_ren : Go.Shelf.Ren := ⟨fun | 41 => 26 | n => n, fun | 22 => 22 | 23 => 24 | 4 => 4 | n => n, fun | n => n⟩
theorem Tryd.cloneIds : Go.Proofs.SlLaysE0.n41 Tryd.prog Tryd.cloneIds_ren := {
  mixed := by kernel_rfl
  f41 := ⟨Tryd.f26.name, by decide, Tryd.func26.trans (congrArg some (by kernel_rfl))⟩
  t4 := Tryd.underlying4
  a4 := Tryd.isAgg4
  z4 := Tryd.sizeOf4
  v4 := Tryd.zeroValue4
  t22 := Tryd.underlying22
  a22 := Tryd.isAgg22
  z22 := Tryd.sizeOf22
  v22 := Tryd.zeroValue22 }
end Go.Proofs
