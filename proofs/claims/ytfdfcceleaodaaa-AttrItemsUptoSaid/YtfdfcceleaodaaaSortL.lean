/- The library's sort and clone at this dump, laid by the shelf's own tool in plain declarations. -/
import Derived.Shelf.SlGeneric
import Derived.Shelf.SlSortCmp.NoneTotal
import Derived.Shelf.SlicesE.Clone
import Derived.Shelf.Small.Bits
import Derived.Ground.SlsfProg
import Derived.Ground.SlgnProg
import Derived.Test.YtfdfcceleaodaaaProg
namespace Go.Proofs
open Go.Shelf
def Try.sortIds_ren : Go.Shelf.Ren := ⟨fun | 6 => 51 | 15 => 56 | 14 => 55 | 28 => 67 | 29 => 68 | 20 => 59 | 21 => 60 | 22 => 61 | 23 => 62 | 24 => 63 | 25 => 64 | 26 => 65 | 27 => 66 | 46 => 70 | 47 => 71 | 48 => 72 | 49 => 73 | 50 => 74 | 57 => 75 | n => n, fun | 22 => 22 | 24 => 42 | 25 => 71 | 3 => 3 | 39 => 76 | 0 => 0 | 53 => 87 | 55 => 25 | 4 => 4 | 46 => 81 | 45 => 80 | 50 => 64 | 5 => 5 | 9 => 9 | 66 => 91 | 70 => 95 | 76 => 97 | 77 => 98 | n => n, fun | n => n⟩
theorem Try.sortIds : Go.Proofs.SlLaysF0.n6 Try.prog Try.sortIds_ren := {
  mixed := by kernel_rfl
  f6 := ⟨Try.f51.name, by decide, Try.func51.trans (congrArg some (by kernel_rfl))⟩
  f14 := ⟨Try.f55.name, by decide, Try.func55.trans (congrArg some (by kernel_rfl))⟩
  f15 := Try.func56.trans (congrArg some (by kernel_rfl))
  f20 := ⟨Try.f59.name, by decide, Try.func59.trans (congrArg some (by kernel_rfl))⟩
  f21 := ⟨Try.f60.name, by decide, Try.func60.trans (congrArg some (by kernel_rfl))⟩
  f22 := ⟨Try.f61.name, by decide, Try.func61.trans (congrArg some (by kernel_rfl))⟩
  f23 := ⟨Try.f62.name, by decide, Try.func62.trans (congrArg some (by kernel_rfl))⟩
  f24 := ⟨Try.f63.name, by decide, Try.func63.trans (congrArg some (by kernel_rfl))⟩
  f25 := ⟨Try.f64.name, by decide, Try.func64.trans (congrArg some (by kernel_rfl))⟩
  f26 := ⟨Try.f65.name, by decide, Try.func65.trans (congrArg some (by kernel_rfl))⟩
  f27 := ⟨Try.f66.name, by decide, Try.func66.trans (congrArg some (by kernel_rfl))⟩
  f28 := Try.func67.trans (congrArg some (by kernel_rfl))
  f29 := Try.func68.trans (congrArg some (by kernel_rfl))
  f46 := ⟨Try.f70.name, by decide, Try.func70.trans (congrArg some (by kernel_rfl))⟩
  f47 := Try.func71.trans (congrArg some (by kernel_rfl))
  f48 := Try.func72.trans (congrArg some (by kernel_rfl))
  f49 := ⟨Try.f73.name, by decide, Try.func73.trans (congrArg some (by kernel_rfl))⟩
  f50 := ⟨Try.f74.name, by decide, Try.func74.trans (congrArg some (by kernel_rfl))⟩
  f57 := ⟨Try.f75.name, by decide, Try.func75.trans (congrArg some (by kernel_rfl))⟩
  t0 := Try.underlying0
  a0 := Try.isAgg0
  z0 := Try.sizeOf0
  v0 := Try.zeroValue0
  t3 := Try.underlying3
  a3 := Try.isAgg3
  z3 := Try.sizeOf3
  v3 := Try.zeroValue3
  t4 := Try.underlying4
  a4 := Try.isAgg4
  z4 := Try.sizeOf4
  v4 := Try.zeroValue4
  t5 := Try.underlying5
  a5 := Try.isAgg5
  z5 := Try.sizeOf5
  v5 := Try.zeroValue5
  t9 := Try.underlying9
  a9 := Try.isAgg9
  z9 := Try.sizeOf9
  v9 := Try.zeroValue9
  t22 := Try.underlying22
  a22 := Try.isAgg22
  z22 := Try.sizeOf22
  v22 := Try.zeroValue22
  t25 := Try.underlying71
  a25 := Try.isAgg71
  z25 := Try.sizeOf71
  v25 := Try.zeroValue71
  t39 := Try.underlying76
  a39 := Try.isAgg76
  z39 := Try.sizeOf76
  v39 := Try.zeroValue76
  t45 := Try.underlying80
  a45 := Try.isAgg80
  z45 := Try.sizeOf80
  v45 := Try.zeroValue80
  t46 := Try.underlying81
  a46 := Try.isAgg81
  z46 := Try.sizeOf81
  v46 := Try.zeroValue81
  t50 := Try.underlying64
  a50 := Try.isAgg64
  z50 := Try.sizeOf64
  v50 := Try.zeroValue64
  t53 := Try.underlying87
  a53 := Try.isAgg87
  z53 := Try.sizeOf87
  v53 := Try.zeroValue87
  t55 := Try.underlying25
  a55 := Try.isAgg25
  z55 := Try.sizeOf25
  v55 := Try.zeroValue25
  t66 := Try.underlying91
  a66 := Try.isAgg91
  z66 := Try.sizeOf91
  v66 := Try.zeroValue91
  t70 := Try.underlying95
  a70 := Try.isAgg95
  z70 := Try.sizeOf95
  v70 := Try.zeroValue95
  t76 := Try.underlying97
  a76 := Try.isAgg97
  z76 := Try.sizeOf97
  v76 := Try.zeroValue97
  t77 := Try.underlying98
  a77 := Try.isAgg98
  z77 := Try.sizeOf98
  v77 := Try.zeroValue98 }
def Try.cloneIds_ren : Go.Shelf.Ren := ⟨fun | 41 => 50 | n => n, fun | 22 => 22 | 23 => 42 | 4 => 4 | n => n, fun | n => n⟩
theorem Try.cloneIds : Go.Proofs.SlLaysE0.n41 Try.prog Try.cloneIds_ren := {
  mixed := by kernel_rfl
  f41 := ⟨Try.f50.name, by decide, Try.func50.trans (congrArg some (by kernel_rfl))⟩
  t4 := Try.underlying4
  a4 := Try.isAgg4
  z4 := Try.sizeOf4
  v4 := Try.zeroValue4
  t22 := Try.underlying22
  a22 := Try.isAgg22
  z22 := Try.sizeOf22
  v22 := Try.zeroValue22 }
end Go.Proofs
