/- The shelf's layings at this dump, in plain words (written by the kit's tool lay-plain). Conditions: none. -/
import Derived.Shelf.SlSortCmp.NoneTotal
import Derived.Shelf.SlGeneric
import Derived.Ground.SlsfProg
import Derived.Test.YtdfaldccopnoiaaProg
namespace Go.Proofs
open Go.Shelf
def Try.sortPos_ren : Go.Shelf.Ren := ⟨fun | 6 => 61 | 15 => 77 | 14 => 76 | 28 => 86 | 29 => 87 | 20 => 78 | 21 => 79 | 22 => 80 | 23 => 81 | 24 => 82 | 25 => 83 | 26 => 84 | 27 => 85 | 46 => 88 | 47 => 89 | 48 => 90 | 49 => 91 | 50 => 92 | 57 => 93 | n => n, fun | 22 => 83 | 24 => 28 | 25 => 89 | 3 => 3 | 39 => 127 | 0 => 0 | 53 => 137 | 55 => 76 | 4 => 4 | 46 => 130 | 45 => 129 | 50 => 134 | 5 => 5 | 9 => 9 | 66 => 139 | 70 => 142 | 76 => 144 | 77 => 145 | n => n, fun | n => n⟩
theorem Try.sortPos : Go.Proofs.SlLaysF0.n6 Try.prog Try.sortPos_ren := {
  mixed := by kernel_rfl
  f6 := ⟨Try.f61.name, by decide, Try.func61.trans (congrArg some (by kernel_rfl))⟩
  f14 := ⟨Try.f76.name, by decide, Try.func76.trans (congrArg some (by kernel_rfl))⟩
  f15 := Try.func77.trans (congrArg some (by kernel_rfl))
  f20 := ⟨Try.f78.name, by decide, Try.func78.trans (congrArg some (by kernel_rfl))⟩
  f21 := ⟨Try.f79.name, by decide, Try.func79.trans (congrArg some (by kernel_rfl))⟩
  f22 := ⟨Try.f80.name, by decide, Try.func80.trans (congrArg some (by kernel_rfl))⟩
  f23 := ⟨Try.f81.name, by decide, Try.func81.trans (congrArg some (by kernel_rfl))⟩
  f24 := ⟨Try.f82.name, by decide, Try.func82.trans (congrArg some (by kernel_rfl))⟩
  f25 := ⟨Try.f83.name, by decide, Try.func83.trans (congrArg some (by kernel_rfl))⟩
  f26 := ⟨Try.f84.name, by decide, Try.func84.trans (congrArg some (by kernel_rfl))⟩
  f27 := ⟨Try.f85.name, by decide, Try.func85.trans (congrArg some (by kernel_rfl))⟩
  f28 := Try.func86.trans (congrArg some (by kernel_rfl))
  f29 := Try.func87.trans (congrArg some (by kernel_rfl))
  f46 := ⟨Try.f88.name, by decide, Try.func88.trans (congrArg some (by kernel_rfl))⟩
  f47 := Try.func89.trans (congrArg some (by kernel_rfl))
  f48 := Try.func90.trans (congrArg some (by kernel_rfl))
  f49 := ⟨Try.f91.name, by decide, Try.func91.trans (congrArg some (by kernel_rfl))⟩
  f50 := ⟨Try.f92.name, by decide, Try.func92.trans (congrArg some (by kernel_rfl))⟩
  f57 := ⟨Try.f93.name, by decide, Try.func93.trans (congrArg some (by kernel_rfl))⟩
  t0 := Try.underlying0
  a0 := Try.isAgg0
  z0 := Try.sizeOf0
  v0 := Try.zeroValue0
  t3 := Try.underlying3
  a3 := Try.isAgg3
  z3 := Try.sizeOf3
  v3 := Try.zeroValue3
  t4 := Try.underlying4
  a4 := Try.isAgg4
  z4 := Try.sizeOf4
  v4 := Try.zeroValue4
  t5 := Try.underlying5
  a5 := Try.isAgg5
  z5 := Try.sizeOf5
  v5 := Try.zeroValue5
  t9 := Try.underlying9
  a9 := Try.isAgg9
  z9 := Try.sizeOf9
  v9 := Try.zeroValue9
  t22 := Try.underlying83
  a22 := Try.isAgg83
  z22 := Try.sizeOf83
  v22 := Try.zeroValue83
  t25 := Try.underlying89
  a25 := Try.isAgg89
  z25 := Try.sizeOf89
  v25 := Try.zeroValue89
  t39 := Try.underlying127
  a39 := Try.isAgg127
  z39 := Try.sizeOf127
  v39 := Try.zeroValue127
  t45 := Try.underlying129
  a45 := Try.isAgg129
  z45 := Try.sizeOf129
  v45 := Try.zeroValue129
  t46 := Try.underlying130
  a46 := Try.isAgg130
  z46 := Try.sizeOf130
  v46 := Try.zeroValue130
  t50 := Try.underlying134
  a50 := Try.isAgg134
  z50 := Try.sizeOf134
  v50 := Try.zeroValue134
  t53 := Try.underlying137
  a53 := Try.isAgg137
  z53 := Try.sizeOf137
  v53 := Try.zeroValue137
  t55 := Try.underlying76
  a55 := Try.isAgg76
  z55 := Try.sizeOf76
  v55 := Try.zeroValue76
  t66 := Try.underlying139
  a66 := Try.isAgg139
  z66 := Try.sizeOf139
  v66 := Try.zeroValue139
  t70 := Try.underlying142
  a70 := Try.isAgg142
  z70 := Try.sizeOf142
  v70 := Try.zeroValue142
  t76 := Try.underlying144
  a76 := Try.isAgg144
  z76 := Try.sizeOf144
  v76 := Try.zeroValue144
  t77 := Try.underlying145
  a77 := Try.isAgg145
  z77 := Try.sizeOf145
  v77 := Try.zeroValue145 }
end Go.Proofs
