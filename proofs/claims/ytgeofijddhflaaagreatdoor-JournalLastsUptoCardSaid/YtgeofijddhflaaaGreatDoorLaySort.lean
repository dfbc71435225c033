/- The library contracts on slices.SortFunc and cmp.Compare, laid at this translation by the kit (its plain mode). -/
import Derived.Shelf.SlSortCmp.NoneTotal
import Derived.Shelf.SlicesG.Cmp
import Derived.Ground.SlsfProg
import Derived.Ground.SlgcProg
import Derived.Test.YtgeofijddhflaaaGreatDoorProg
namespace Go.Proofs
open Go.Shelf
def Tryz.sortFound_ren : Go.Shelf.Ren := ⟨fun | 6 => 100 | 15 => 148 | 14 => 147 | 28 => 184 | 29 => 185 | 20 => 176 | 21 => 177 | 22 => 178 | 23 => 179 | 24 => 180 | 25 => 181 | 26 => 182 | 27 => 183 | 46 => 206 | 47 => 207 | 48 => 208 | 49 => 209 | 50 => 210 | 57 => 222 | n => n, fun | 22 => 100 | 24 => 106 | 25 => 150 | 3 => 3 | 39 => 181 | 0 => 0 | 53 => 214 | 55 => 187 | 4 => 4 | 46 => 208 | 45 => 207 | 50 => 124 | 5 => 5 | 9 => 9 | 66 => 232 | 70 => 155 | 76 => 248 | 77 => 54 | n => n, fun | n => n⟩
theorem Tryz.sortFound : Go.Proofs.SlLaysF0.n6 Tryz.prog Tryz.sortFound_ren := {
  mixed := by kernel_rfl
  f6 := ⟨Tryz.f100.name, by decide, Tryz.func100.trans (congrArg some (by kernel_rfl))⟩
  f14 := ⟨Tryz.f147.name, by decide, Tryz.func147.trans (congrArg some (by kernel_rfl))⟩
  f15 := Tryz.func148.trans (congrArg some (by kernel_rfl))
  f20 := ⟨Tryz.f176.name, by decide, Tryz.func176.trans (congrArg some (by kernel_rfl))⟩
  f21 := ⟨Tryz.f177.name, by decide, Tryz.func177.trans (congrArg some (by kernel_rfl))⟩
  f22 := ⟨Tryz.f178.name, by decide, Tryz.func178.trans (congrArg some (by kernel_rfl))⟩
  f23 := ⟨Tryz.f179.name, by decide, Tryz.func179.trans (congrArg some (by kernel_rfl))⟩
  f24 := ⟨Tryz.f180.name, by decide, Tryz.func180.trans (congrArg some (by kernel_rfl))⟩
  f25 := ⟨Tryz.f181.name, by decide, Tryz.func181.trans (congrArg some (by kernel_rfl))⟩
  f26 := ⟨Tryz.f182.name, by decide, Tryz.func182.trans (congrArg some (by kernel_rfl))⟩
  f27 := ⟨Tryz.f183.name, by decide, Tryz.func183.trans (congrArg some (by kernel_rfl))⟩
  f28 := Tryz.func184.trans (congrArg some (by kernel_rfl))
  f29 := Tryz.func185.trans (congrArg some (by kernel_rfl))
  f46 := ⟨Tryz.f206.name, by decide, Tryz.func206.trans (congrArg some (by kernel_rfl))⟩
  f47 := Tryz.func207.trans (congrArg some (by kernel_rfl))
  f48 := Tryz.func208.trans (congrArg some (by kernel_rfl))
  f49 := ⟨Tryz.f209.name, by decide, Tryz.func209.trans (congrArg some (by kernel_rfl))⟩
  f50 := ⟨Tryz.f210.name, by decide, Tryz.func210.trans (congrArg some (by kernel_rfl))⟩
  f57 := ⟨Tryz.f222.name, by decide, Tryz.func222.trans (congrArg some (by kernel_rfl))⟩
  t0 := Tryz.underlying0
  a0 := Tryz.isAgg0
  z0 := Tryz.sizeOf0
  v0 := Tryz.zeroValue0
  t3 := Tryz.underlying3
  a3 := Tryz.isAgg3
  z3 := Tryz.sizeOf3
  v3 := Tryz.zeroValue3
  t4 := Tryz.underlying4
  a4 := Tryz.isAgg4
  z4 := Tryz.sizeOf4
  v4 := Tryz.zeroValue4
  t5 := Tryz.underlying5
  a5 := Tryz.isAgg5
  z5 := Tryz.sizeOf5
  v5 := Tryz.zeroValue5
  t9 := Tryz.underlying9
  a9 := Tryz.isAgg9
  z9 := Tryz.sizeOf9
  v9 := Tryz.zeroValue9
  t22 := Tryz.underlying100
  a22 := Tryz.isAgg100
  z22 := Tryz.sizeOf100
  v22 := Tryz.zeroValue100
  t25 := Tryz.underlying150
  a25 := Tryz.isAgg150
  z25 := Tryz.sizeOf150
  v25 := Tryz.zeroValue150
  t39 := Tryz.underlying181
  a39 := Tryz.isAgg181
  z39 := Tryz.sizeOf181
  v39 := Tryz.zeroValue181
  t45 := Tryz.underlying207
  a45 := Tryz.isAgg207
  z45 := Tryz.sizeOf207
  v45 := Tryz.zeroValue207
  t46 := Tryz.underlying208
  a46 := Tryz.isAgg208
  z46 := Tryz.sizeOf208
  v46 := Tryz.zeroValue208
  t50 := Tryz.underlying124
  a50 := Tryz.isAgg124
  z50 := Tryz.sizeOf124
  v50 := Tryz.zeroValue124
  t53 := Tryz.underlying214
  a53 := Tryz.isAgg214
  z53 := Tryz.sizeOf214
  v53 := Tryz.zeroValue214
  t55 := Tryz.underlying187
  a55 := Tryz.isAgg187
  z55 := Tryz.sizeOf187
  v55 := Tryz.zeroValue187
  t66 := Tryz.underlying232
  a66 := Tryz.isAgg232
  z66 := Tryz.sizeOf232
  v66 := Tryz.zeroValue232
  t70 := Tryz.underlying155
  a70 := Tryz.isAgg155
  z70 := Tryz.sizeOf155
  v70 := Tryz.zeroValue155
  t76 := Tryz.underlying248
  a76 := Tryz.isAgg248
  z76 := Tryz.sizeOf248
  v76 := Tryz.zeroValue248
  t77 := Tryz.underlying54
  a77 := Tryz.isAgg54
  z77 := Tryz.sizeOf54
  v77 := Tryz.zeroValue54 }
def Tryz.cmpInt_ren : Go.Shelf.Ren := ⟨fun | 5 => 102 | 7 => 149 | n => n, fun | 22 => 3 | 3 => 3 | 4 => 4 | n => n, fun | n => n⟩
theorem Tryz.cmpInt : Go.Proofs.SlLaysC2.n5 Tryz.prog Tryz.cmpInt_ren := {
  mixed := by kernel_rfl
  f5 := ⟨Tryz.f102.name, by decide, Tryz.func102.trans (congrArg some (by kernel_rfl))⟩
  f7 := ⟨Tryz.f149.name, by decide, Tryz.func149.trans (congrArg some (by kernel_rfl))⟩
  t3 := Tryz.underlying3
  a3 := Tryz.isAgg3
  z3 := Tryz.sizeOf3
  v3 := Tryz.zeroValue3
  t4 := Tryz.underlying4
  a4 := Tryz.isAgg4
  z4 := Tryz.sizeOf4
  v4 := Tryz.zeroValue4
  t22 := Tryz.underlying3
  a22 := Tryz.isAgg3
  z22 := Tryz.sizeOf3
  v22 := Tryz.zeroValue3 }
end Go.Proofs
