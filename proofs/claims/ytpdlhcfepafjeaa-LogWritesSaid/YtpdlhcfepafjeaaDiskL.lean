/- What a disk wants of the library at this dump, laid by the shelf's own tool in plain declarations. -/
import Derived.Shelf.SlGeneric
import Derived.Shelf.SlIter.Nil
import Derived.Shelf.SortM.Plain
import Derived.Shelf.SortM.SortNone
import Derived.Shelf.SlicesE.Clone
import Derived.Shelf.GgClosure.StringsIndexFuncTop
import Derived.Ground.GgzProg
import Derived.Ground.SlgmProg
import Derived.Ground.SlgnProg
import Derived.Ground.GgwProg
import Derived.Ground.NamesProg
import Derived.Test.YtpdlhcfepafjeaaProg
namespace Go.Proofs
open Go.Shelf
def Try.containsF_ren : Go.Shelf.Ren := ⟨fun | 17 => 95 | 15 => 127 | 20 => 135 | n => n, fun | 9 => 9 | 23 => 145 | 4 => 4 | 3 => 3 | 0 => 0 | 21 => 21 | n => n, fun | n => n⟩
theorem Try.containsF : Go.Proofs.LaysGw.n17 Try.prog Try.containsF_ren := {
  mixed := by kernel_rfl
  f15 := Try.func127.trans (congrArg some (by kernel_rfl))
  f17 := Try.func95.trans (congrArg some (by kernel_rfl))
  f20 := Try.func135.trans (congrArg some (by kernel_rfl))
  t0 := Try.underlying0
  a0 := Try.isAgg0
  z0 := Try.sizeOf0
  v0 := Try.zeroValue0
  i0 := by kernel_rfl
  t3 := Try.underlying3
  a3 := Try.isAgg3
  z3 := Try.sizeOf3
  v3 := Try.zeroValue3
  i3 := by kernel_rfl
  t4 := Try.underlying4
  a4 := Try.isAgg4
  z4 := Try.sizeOf4
  v4 := Try.zeroValue4
  i4 := by kernel_rfl
  t9 := Try.underlying9
  a9 := Try.isAgg9
  z9 := Try.sizeOf9
  v9 := Try.zeroValue9
  i9 := by kernel_rfl
  t21 := Try.underlying21
  a21 := Try.isAgg21
  z21 := Try.sizeOf21
  v21 := Try.zeroValue21
  i21 := by kernel_rfl
  t23 := Try.underlying145
  a23 := Try.isAgg145
  z23 := Try.sizeOf145
  v23 := Try.zeroValue145
  i23 := by kernel_rfl }
def Try.keysA_ren : Go.Shelf.Ren := ⟨fun | 7 => 67 | 10 => 98 | n => n, fun | 23 => 104 | 26 => 9 | 3 => 108 | 28 => 115 | 0 => 0 | 27 => 114 | 33 => 110 | 4 => 4 | n => n, fun | n => n⟩
theorem Try.keysA : Go.Proofs.SlLaysZ.n7 Try.prog Try.keysA_ren := {
  mixed := by kernel_rfl
  f7 := ⟨Try.f67.name, by decide, Try.func67.trans (congrArg some (by kernel_rfl))⟩
  f10 := ⟨Try.f98.name, by decide, Try.func98.trans (congrArg some (by kernel_rfl))⟩
  t0 := Try.underlying0
  a0 := Try.isAgg0
  z0 := Try.sizeOf0
  v0 := Try.zeroValue0
  t4 := Try.underlying4
  a4 := Try.isAgg4
  z4 := Try.sizeOf4
  v4 := Try.zeroValue4
  t23 := Try.underlying104
  a23 := Try.isAgg104
  z23 := Try.sizeOf104
  v23 := Try.zeroValue104
  t26 := Try.underlying9
  a26 := Try.isAgg9
  z26 := Try.sizeOf9
  v26 := Try.zeroValue9
  t27 := Try.underlying114
  a27 := Try.isAgg114
  z27 := Try.sizeOf114
  v27 := Try.zeroValue114
  t28 := Try.underlying115
  a28 := Try.isAgg115
  z28 := Try.sizeOf115
  v28 := Try.zeroValue115
  t33 := Try.underlying110
  a33 := Try.isAgg110
  z33 := Try.sizeOf110
  v33 := Try.zeroValue110 }
def Try.sortedA_ren : Go.Shelf.Ren := ⟨fun | 6 => 66 | 8 => 96 | 9 => 97 | 11 => 128 | 13 => 90 | 12 => 129 | 23 => 124 | 24 => 125 | 14 => 136 | 15 => 137 | 16 => 138 | 17 => 139 | 18 => 140 | 19 => 141 | 20 => 142 | 21 => 143 | 22 => 144 | 25 => 146 | 26 => 131 | 27 => 132 | 28 => 147 | 29 => 148 | 30 => 149 | 31 => 150 | n => n, fun | 26 => 9 | 28 => 115 | 24 => 75 | 0 => 0 | 3 => 3 | 37 => 143 | 48 => 134 | 50 => 131 | 4 => 4 | 40 => 159 | 39 => 158 | 45 => 43 | 5 => 5 | 9 => 9 | 51 => 170 | 55 => 174 | 57 => 183 | 58 => 184 | 33 => 110 | n => n, fun | n => n⟩
theorem Try.sortedA : Go.Proofs.SlLaysZ.n6 Try.prog Try.sortedA_ren := {
  mixed := by kernel_rfl
  f6 := ⟨Try.f66.name, by decide, Try.func66.trans (congrArg some (by kernel_rfl))⟩
  f8 := ⟨Try.f96.name, by decide, Try.func96.trans (congrArg some (by kernel_rfl))⟩
  f11 := ⟨Try.f128.name, by decide, Try.func128.trans (congrArg some (by kernel_rfl))⟩
  t0 := Try.underlying0
  a0 := Try.isAgg0
  z0 := Try.sizeOf0
  v0 := Try.zeroValue0
  t24 := Try.underlying75
  a24 := Try.isAgg75
  z24 := Try.sizeOf75
  v24 := Try.zeroValue75
  t26 := Try.underlying9
  a26 := Try.isAgg9
  z26 := Try.sizeOf9
  v26 := Try.zeroValue9
  t28 := Try.underlying115
  a28 := Try.isAgg115
  z28 := Try.sizeOf115
  v28 := Try.zeroValue115
  i26 := by kernel_rfl }
def Try.sortA_ren : Go.Shelf.Ren := ⟨fun | 6 => 97 | 8 => 90 | 9 => 129 | 19 => 124 | 20 => 125 | 21 => 136 | 22 => 137 | 23 => 138 | 24 => 139 | 25 => 140 | 26 => 141 | 27 => 142 | 28 => 143 | 29 => 144 | 36 => 146 | 31 => 131 | 32 => 132 | 37 => 147 | 38 => 148 | 39 => 149 | 41 => 150 | n => n, fun | 27 => 75 | 29 => 9 | 3 => 3 | 32 => 143 | 26 => 75 | 0 => 0 | 44 => 134 | 46 => 131 | 4 => 4 | 36 => 159 | 35 => 158 | 41 => 43 | 5 => 5 | 9 => 9 | 53 => 170 | 57 => 174 | 63 => 183 | 64 => 184 | n => n, fun | n => n⟩
theorem Try.sortA : Go.Proofs.SlLaysM.n6 Try.prog Try.sortA_ren := {
  mixed := by kernel_rfl
  f6 := ⟨Try.f97.name, by decide, Try.func97.trans (congrArg some (by kernel_rfl))⟩
  f8 := Try.func90.trans (congrArg some (by kernel_rfl))
  f9 := ⟨Try.f129.name, by decide, Try.func129.trans (congrArg some (by kernel_rfl))⟩
  f19 := Try.func124.trans (congrArg some (by kernel_rfl))
  f20 := Try.func125.trans (congrArg some (by kernel_rfl))
  f21 := ⟨Try.f136.name, by decide, Try.func136.trans (congrArg some (by kernel_rfl))⟩
  f22 := ⟨Try.f137.name, by decide, Try.func137.trans (congrArg some (by kernel_rfl))⟩
  f23 := ⟨Try.f138.name, by decide, Try.func138.trans (congrArg some (by kernel_rfl))⟩
  f24 := ⟨Try.f139.name, by decide, Try.func139.trans (congrArg some (by kernel_rfl))⟩
  f25 := ⟨Try.f140.name, by decide, Try.func140.trans (congrArg some (by kernel_rfl))⟩
  f26 := ⟨Try.f141.name, by decide, Try.func141.trans (congrArg some (by kernel_rfl))⟩
  f27 := ⟨Try.f142.name, by decide, Try.func142.trans (congrArg some (by kernel_rfl))⟩
  f28 := ⟨Try.f143.name, by decide, Try.func143.trans (congrArg some (by kernel_rfl))⟩
  f29 := ⟨Try.f144.name, by decide, Try.func144.trans (congrArg some (by kernel_rfl))⟩
  f31 := Try.func131.trans (congrArg some (by kernel_rfl))
  f32 := Try.func132.trans (congrArg some (by kernel_rfl))
  f36 := ⟨Try.f146.name, by decide, Try.func146.trans (congrArg some (by kernel_rfl))⟩
  f37 := ⟨Try.f147.name, by decide, Try.func147.trans (congrArg some (by kernel_rfl))⟩
  f38 := ⟨Try.f148.name, by decide, Try.func148.trans (congrArg some (by kernel_rfl))⟩
  f39 := ⟨Try.f149.name, by decide, Try.func149.trans (congrArg some (by kernel_rfl))⟩
  f41 := ⟨Try.f150.name, by decide, Try.func150.trans (congrArg some (by kernel_rfl))⟩
  t0 := Try.underlying0
  a0 := Try.isAgg0
  z0 := Try.sizeOf0
  v0 := Try.zeroValue0
  t3 := Try.underlying3
  a3 := Try.isAgg3
  z3 := Try.sizeOf3
  v3 := Try.zeroValue3
  t4 := Try.underlying4
  a4 := Try.isAgg4
  z4 := Try.sizeOf4
  v4 := Try.zeroValue4
  t5 := Try.underlying5
  a5 := Try.isAgg5
  z5 := Try.sizeOf5
  v5 := Try.zeroValue5
  t9 := Try.underlying9
  a9 := Try.isAgg9
  z9 := Try.sizeOf9
  v9 := Try.zeroValue9
  t26 := Try.underlying75
  a26 := Try.isAgg75
  z26 := Try.sizeOf75
  v26 := Try.zeroValue75
  t27 := Try.underlying75
  a27 := Try.isAgg75
  z27 := Try.sizeOf75
  v27 := Try.zeroValue75
  t29 := Try.underlying9
  a29 := Try.isAgg9
  z29 := Try.sizeOf9
  v29 := Try.zeroValue9
  t32 := Try.underlying143
  a32 := Try.isAgg143
  z32 := Try.sizeOf143
  v32 := Try.zeroValue143
  t35 := Try.underlying158
  a35 := Try.isAgg158
  z35 := Try.sizeOf158
  v35 := Try.zeroValue158
  t36 := Try.underlying159
  a36 := Try.isAgg159
  z36 := Try.sizeOf159
  v36 := Try.zeroValue159
  t41 := Try.underlying43
  a41 := Try.isAgg43
  z41 := Try.sizeOf43
  v41 := Try.zeroValue43
  t44 := Try.underlying134
  a44 := Try.isAgg134
  z44 := Try.sizeOf134
  v44 := Try.zeroValue134
  t46 := Try.underlying131
  a46 := Try.isAgg131
  z46 := Try.sizeOf131
  v46 := Try.zeroValue131
  t53 := Try.underlying170
  a53 := Try.isAgg170
  z53 := Try.sizeOf170
  v53 := Try.zeroValue170
  t57 := Try.underlying174
  a57 := Try.isAgg174
  z57 := Try.sizeOf174
  v57 := Try.zeroValue174
  t63 := Try.underlying183
  a63 := Try.isAgg183
  z63 := Try.sizeOf183
  v63 := Try.zeroValue183
  t64 := Try.underlying184
  a64 := Try.isAgg184
  z64 := Try.sizeOf184
  v64 := Try.zeroValue184 }
def Try.cloneB_ren : Go.Shelf.Ren := ⟨fun | 41 => 55 | n => n, fun | 22 => 22 | 23 => 5 | 4 => 4 | n => n, fun | n => n⟩
theorem Try.cloneB : Go.Proofs.SlLaysE0.n41 Try.prog Try.cloneB_ren := {
  mixed := by kernel_rfl
  f41 := ⟨Try.f55.name, by decide, Try.func55.trans (congrArg some (by kernel_rfl))⟩
  t4 := Try.underlying4
  a4 := Try.isAgg4
  z4 := Try.sizeOf4
  v4 := Try.zeroValue4
  t22 := Try.underlying22
  a22 := Try.isAgg22
  z22 := Try.sizeOf22
  v22 := Try.zeroValue22 }
end Go.Proofs
