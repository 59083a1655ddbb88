/- What a disk wants of the library at this dump, laid by the shelf's own tool in plain declarations. -/
import Derived.Shelf.SlGeneric
import Derived.Shelf.SlIter.Nil
import Derived.Shelf.SortM.Plain
import Derived.Shelf.SortM.SortNone
import Derived.Shelf.SlicesE.Clone
import Derived.Shelf.GgClosure.StringsIndexFuncTop
import Derived.Ground.GgzProg
import Derived.Ground.SlgmProg
import Derived.Ground.SlgnProg
import Derived.Ground.GgwProg
import Derived.Ground.NamesProg
import Derived.Test.YtpdfbkkhmfnnjaaProg
namespace Go.Proofs
open Go.Shelf
def Try.containsF_ren : Go.Shelf.Ren := ⟨fun | 17 => 97 | 15 => 112 | 20 => 120 | n => n, fun | 9 => 9 | 23 => 137 | 4 => 4 | 3 => 3 | 0 => 0 | 21 => 21 | n => n, fun | n => n⟩
theorem Try.containsF : Go.Proofs.LaysGw.n17 Try.prog Try.containsF_ren := {
  mixed := by kernel_rfl
  f15 := Try.func112.trans (congrArg some (by kernel_rfl))
  f17 := Try.func97.trans (congrArg some (by kernel_rfl))
  f20 := Try.func120.trans (congrArg some (by kernel_rfl))
  t0 := Try.underlying0
  a0 := Try.isAgg0
  z0 := Try.sizeOf0
  v0 := Try.zeroValue0
  i0 := by kernel_rfl
  t3 := Try.underlying3
  a3 := Try.isAgg3
  z3 := Try.sizeOf3
  v3 := Try.zeroValue3
  i3 := by kernel_rfl
  t4 := Try.underlying4
  a4 := Try.isAgg4
  z4 := Try.sizeOf4
  v4 := Try.zeroValue4
  i4 := by kernel_rfl
  t9 := Try.underlying9
  a9 := Try.isAgg9
  z9 := Try.sizeOf9
  v9 := Try.zeroValue9
  i9 := by kernel_rfl
  t21 := Try.underlying21
  a21 := Try.isAgg21
  z21 := Try.sizeOf21
  v21 := Try.zeroValue21
  i21 := by kernel_rfl
  t23 := Try.underlying137
  a23 := Try.isAgg137
  z23 := Try.sizeOf137
  v23 := Try.zeroValue137
  i23 := by kernel_rfl }
def Try.keysA_ren : Go.Shelf.Ren := ⟨fun | 7 => 81 | 10 => 100 | n => n, fun | 23 => 93 | 26 => 9 | 3 => 120 | 28 => 128 | 0 => 0 | 27 => 127 | 33 => 122 | 4 => 4 | n => n, fun | n => n⟩
theorem Try.keysA : Go.Proofs.SlLaysZ.n7 Try.prog Try.keysA_ren := {
  mixed := by kernel_rfl
  f7 := ⟨Try.f81.name, by decide, Try.func81.trans (congrArg some (by kernel_rfl))⟩
  f10 := ⟨Try.f100.name, by decide, Try.func100.trans (congrArg some (by kernel_rfl))⟩
  t0 := Try.underlying0
  a0 := Try.isAgg0
  z0 := Try.sizeOf0
  v0 := Try.zeroValue0
  t4 := Try.underlying4
  a4 := Try.isAgg4
  z4 := Try.sizeOf4
  v4 := Try.zeroValue4
  t23 := Try.underlying93
  a23 := Try.isAgg93
  z23 := Try.sizeOf93
  v23 := Try.zeroValue93
  t26 := Try.underlying9
  a26 := Try.isAgg9
  z26 := Try.sizeOf9
  v26 := Try.zeroValue9
  t27 := Try.underlying127
  a27 := Try.isAgg127
  z27 := Try.sizeOf127
  v27 := Try.zeroValue127
  t28 := Try.underlying128
  a28 := Try.isAgg128
  z28 := Try.sizeOf128
  v28 := Try.zeroValue128
  t33 := Try.underlying122
  a33 := Try.isAgg122
  z33 := Try.sizeOf122
  v33 := Try.zeroValue122 }
def Try.sortedA_ren : Go.Shelf.Ren := ⟨fun | 6 => 80 | 8 => 98 | 9 => 99 | 11 => 113 | 13 => 93 | 12 => 114 | 23 => 109 | 24 => 110 | 14 => 121 | 15 => 122 | 16 => 123 | 17 => 124 | 18 => 125 | 19 => 126 | 20 => 127 | 21 => 128 | 22 => 129 | 25 => 131 | 26 => 116 | 27 => 117 | 28 => 132 | 29 => 133 | 30 => 134 | 31 => 135 | n => n, fun | 26 => 9 | 28 => 128 | 24 => 107 | 0 => 0 | 3 => 3 | 37 => 116 | 48 => 148 | 50 => 150 | 4 => 4 | 40 => 142 | 39 => 141 | 45 => 84 | 5 => 5 | 9 => 9 | 51 => 154 | 55 => 158 | 57 => 166 | 58 => 167 | 33 => 122 | n => n, fun | n => n⟩
theorem Try.sortedA : Go.Proofs.SlLaysZ.n6 Try.prog Try.sortedA_ren := {
  mixed := by kernel_rfl
  f6 := ⟨Try.f80.name, by decide, Try.func80.trans (congrArg some (by kernel_rfl))⟩
  f8 := ⟨Try.f98.name, by decide, Try.func98.trans (congrArg some (by kernel_rfl))⟩
  f11 := ⟨Try.f113.name, by decide, Try.func113.trans (congrArg some (by kernel_rfl))⟩
  t0 := Try.underlying0
  a0 := Try.isAgg0
  z0 := Try.sizeOf0
  v0 := Try.zeroValue0
  t24 := Try.underlying107
  a24 := Try.isAgg107
  z24 := Try.sizeOf107
  v24 := Try.zeroValue107
  t26 := Try.underlying9
  a26 := Try.isAgg9
  z26 := Try.sizeOf9
  v26 := Try.zeroValue9
  t28 := Try.underlying128
  a28 := Try.isAgg128
  z28 := Try.sizeOf128
  v28 := Try.zeroValue128
  i26 := by kernel_rfl }
def Try.sortA_ren : Go.Shelf.Ren := ⟨fun | 6 => 99 | 8 => 93 | 9 => 114 | 19 => 109 | 20 => 110 | 21 => 121 | 22 => 122 | 23 => 123 | 24 => 124 | 25 => 125 | 26 => 126 | 27 => 127 | 28 => 128 | 29 => 129 | 36 => 131 | 31 => 116 | 32 => 117 | 37 => 132 | 38 => 133 | 39 => 134 | 41 => 135 | n => n, fun | 27 => 107 | 29 => 9 | 3 => 3 | 32 => 116 | 26 => 107 | 0 => 0 | 44 => 148 | 46 => 150 | 4 => 4 | 36 => 142 | 35 => 141 | 41 => 84 | 5 => 5 | 9 => 9 | 53 => 154 | 57 => 158 | 63 => 166 | 64 => 167 | n => n, fun | n => n⟩
theorem Try.sortA : Go.Proofs.SlLaysM.n6 Try.prog Try.sortA_ren := {
  mixed := by kernel_rfl
  f6 := ⟨Try.f99.name, by decide, Try.func99.trans (congrArg some (by kernel_rfl))⟩
  f8 := Try.func93.trans (congrArg some (by kernel_rfl))
  f9 := ⟨Try.f114.name, by decide, Try.func114.trans (congrArg some (by kernel_rfl))⟩
  f19 := Try.func109.trans (congrArg some (by kernel_rfl))
  f20 := Try.func110.trans (congrArg some (by kernel_rfl))
  f21 := ⟨Try.f121.name, by decide, Try.func121.trans (congrArg some (by kernel_rfl))⟩
  f22 := ⟨Try.f122.name, by decide, Try.func122.trans (congrArg some (by kernel_rfl))⟩
  f23 := ⟨Try.f123.name, by decide, Try.func123.trans (congrArg some (by kernel_rfl))⟩
  f24 := ⟨Try.f124.name, by decide, Try.func124.trans (congrArg some (by kernel_rfl))⟩
  f25 := ⟨Try.f125.name, by decide, Try.func125.trans (congrArg some (by kernel_rfl))⟩
  f26 := ⟨Try.f126.name, by decide, Try.func126.trans (congrArg some (by kernel_rfl))⟩
  f27 := ⟨Try.f127.name, by decide, Try.func127.trans (congrArg some (by kernel_rfl))⟩
  f28 := ⟨Try.f128.name, by decide, Try.func128.trans (congrArg some (by kernel_rfl))⟩
  f29 := ⟨Try.f129.name, by decide, Try.func129.trans (congrArg some (by kernel_rfl))⟩
  f31 := Try.func116.trans (congrArg some (by kernel_rfl))
  f32 := Try.func117.trans (congrArg some (by kernel_rfl))
  f36 := ⟨Try.f131.name, by decide, Try.func131.trans (congrArg some (by kernel_rfl))⟩
  f37 := ⟨Try.f132.name, by decide, Try.func132.trans (congrArg some (by kernel_rfl))⟩
  f38 := ⟨Try.f133.name, by decide, Try.func133.trans (congrArg some (by kernel_rfl))⟩
  f39 := ⟨Try.f134.name, by decide, Try.func134.trans (congrArg some (by kernel_rfl))⟩
  f41 := ⟨Try.f135.name, by decide, Try.func135.trans (congrArg some (by kernel_rfl))⟩
  t0 := Try.underlying0
  a0 := Try.isAgg0
  z0 := Try.sizeOf0
  v0 := Try.zeroValue0
  t3 := Try.underlying3
  a3 := Try.isAgg3
  z3 := Try.sizeOf3
  v3 := Try.zeroValue3
  t4 := Try.underlying4
  a4 := Try.isAgg4
  z4 := Try.sizeOf4
  v4 := Try.zeroValue4
  t5 := Try.underlying5
  a5 := Try.isAgg5
  z5 := Try.sizeOf5
  v5 := Try.zeroValue5
  t9 := Try.underlying9
  a9 := Try.isAgg9
  z9 := Try.sizeOf9
  v9 := Try.zeroValue9
  t26 := Try.underlying107
  a26 := Try.isAgg107
  z26 := Try.sizeOf107
  v26 := Try.zeroValue107
  t27 := Try.underlying107
  a27 := Try.isAgg107
  z27 := Try.sizeOf107
  v27 := Try.zeroValue107
  t29 := Try.underlying9
  a29 := Try.isAgg9
  z29 := Try.sizeOf9
  v29 := Try.zeroValue9
  t32 := Try.underlying116
  a32 := Try.isAgg116
  z32 := Try.sizeOf116
  v32 := Try.zeroValue116
  t35 := Try.underlying141
  a35 := Try.isAgg141
  z35 := Try.sizeOf141
  v35 := Try.zeroValue141
  t36 := Try.underlying142
  a36 := Try.isAgg142
  z36 := Try.sizeOf142
  v36 := Try.zeroValue142
  t41 := Try.underlying84
  a41 := Try.isAgg84
  z41 := Try.sizeOf84
  v41 := Try.zeroValue84
  t44 := Try.underlying148
  a44 := Try.isAgg148
  z44 := Try.sizeOf148
  v44 := Try.zeroValue148
  t46 := Try.underlying150
  a46 := Try.isAgg150
  z46 := Try.sizeOf150
  v46 := Try.zeroValue150
  t53 := Try.underlying154
  a53 := Try.isAgg154
  z53 := Try.sizeOf154
  v53 := Try.zeroValue154
  t57 := Try.underlying158
  a57 := Try.isAgg158
  z57 := Try.sizeOf158
  v57 := Try.zeroValue158
  t63 := Try.underlying166
  a63 := Try.isAgg166
  z63 := Try.sizeOf166
  v63 := Try.zeroValue166
  t64 := Try.underlying167
  a64 := Try.isAgg167
  z64 := Try.sizeOf167
  v64 := Try.zeroValue167 }
def Try.cloneB_ren : Go.Shelf.Ren := ⟨fun | 41 => 82 | n => n, fun | 22 => 60 | 23 => 5 | 4 => 4 | n => n, fun | n => n⟩
theorem Try.cloneB : Go.Proofs.SlLaysE0.n41 Try.prog Try.cloneB_ren := {
  mixed := by kernel_rfl
  f41 := ⟨Try.f82.name, by decide, Try.func82.trans (congrArg some (by kernel_rfl))⟩
  t4 := Try.underlying4
  a4 := Try.isAgg4
  z4 := Try.sizeOf4
  v4 := Try.zeroValue4
  t22 := Try.underlying60
  a22 := Try.isAgg60
  z22 := Try.sizeOf60
  v22 := Try.zeroValue60 }
end Go.Proofs
