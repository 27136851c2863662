/- Contracts of the library's functions, laid at this program. -/
import Derived.Test.YtclkdldkebjgpaaProg
import Derived.Ground.SlsfProg
import Derived.Shelf.SlSortCmp.WholeK
import Derived.Shelf.SlGeneric
namespace Go.Proofs
open Go.Shelf
def Try.sortE_ren : Go.Shelf.Ren := ⟨fun | 6 => 27 | 15 => 70 | 14 => 69 | 28 => 110 | 29 => 111 | 20 => 102 | 21 => 103 | 22 => 104 | 23 => 105 | 24 => 106 | 25 => 107 | 26 => 108 | 27 => 109 | 46 => 130 | 47 => 131 | 48 => 132 | 49 => 133 | 50 => 134 | 57 => 140 | n => n, fun | 22 => 30 | 24 => 40 | 25 => 79 | 3 => 3 | 39 => 140 | 0 => 0 | 53 => 173 | 55 => 175 | 4 => 4 | 46 => 167 | 45 => 166 | 50 => 82 | 5 => 5 | 9 => 9 | 66 => 195 | 70 => 199 | 76 => 203 | 77 => 204 | n => n, fun | n => n⟩
theorem Try.sortE : Go.Proofs.SlLaysF0.n6 Try.prog Try.sortE_ren := {
  mixed := by kernel_rfl
  f6 := ⟨Try.f27.name, by decide, Try.func27.trans (congrArg some (by kernel_rfl))⟩
  f14 := ⟨Try.f69.name, by decide, Try.func69.trans (congrArg some (by kernel_rfl))⟩
  f15 := Try.func70.trans (congrArg some (by kernel_rfl))
  f20 := ⟨Try.f102.name, by decide, Try.func102.trans (congrArg some (by kernel_rfl))⟩
  f21 := ⟨Try.f103.name, by decide, Try.func103.trans (congrArg some (by kernel_rfl))⟩
  f22 := ⟨Try.f104.name, by decide, Try.func104.trans (congrArg some (by kernel_rfl))⟩
  f23 := ⟨Try.f105.name, by decide, Try.func105.trans (congrArg some (by kernel_rfl))⟩
  f24 := ⟨Try.f106.name, by decide, Try.func106.trans (congrArg some (by kernel_rfl))⟩
  f25 := ⟨Try.f107.name, by decide, Try.func107.trans (congrArg some (by kernel_rfl))⟩
  f26 := ⟨Try.f108.name, by decide, Try.func108.trans (congrArg some (by kernel_rfl))⟩
  f27 := ⟨Try.f109.name, by decide, Try.func109.trans (congrArg some (by kernel_rfl))⟩
  f28 := Try.func110.trans (congrArg some (by kernel_rfl))
  f29 := Try.func111.trans (congrArg some (by kernel_rfl))
  f46 := ⟨Try.f130.name, by decide, Try.func130.trans (congrArg some (by kernel_rfl))⟩
  f47 := Try.func131.trans (congrArg some (by kernel_rfl))
  f48 := Try.func132.trans (congrArg some (by kernel_rfl))
  f49 := ⟨Try.f133.name, by decide, Try.func133.trans (congrArg some (by kernel_rfl))⟩
  f50 := ⟨Try.f134.name, by decide, Try.func134.trans (congrArg some (by kernel_rfl))⟩
  f57 := ⟨Try.f140.name, by decide, Try.func140.trans (congrArg some (by kernel_rfl))⟩
  t0 := Try.underlying0
  a0 := Try.isAgg0
  z0 := Try.sizeOf0
  v0 := Try.zeroValue0
  t3 := Try.underlying3
  a3 := Try.isAgg3
  z3 := Try.sizeOf3
  v3 := Try.zeroValue3
  t4 := Try.underlying4
  a4 := Try.isAgg4
  z4 := Try.sizeOf4
  v4 := Try.zeroValue4
  t5 := Try.underlying5
  a5 := Try.isAgg5
  z5 := Try.sizeOf5
  v5 := Try.zeroValue5
  t9 := Try.underlying9
  a9 := Try.isAgg9
  z9 := Try.sizeOf9
  v9 := Try.zeroValue9
  t22 := Try.underlying30
  a22 := Try.isAgg30
  z22 := Try.sizeOf30
  v22 := Try.zeroValue30
  t25 := Try.underlying79
  a25 := Try.isAgg79
  z25 := Try.sizeOf79
  v25 := Try.zeroValue79
  t39 := Try.underlying140
  a39 := Try.isAgg140
  z39 := Try.sizeOf140
  v39 := Try.zeroValue140
  t45 := Try.underlying166
  a45 := Try.isAgg166
  z45 := Try.sizeOf166
  v45 := Try.zeroValue166
  t46 := Try.underlying167
  a46 := Try.isAgg167
  z46 := Try.sizeOf167
  v46 := Try.zeroValue167
  t50 := Try.underlying82
  a50 := Try.isAgg82
  z50 := Try.sizeOf82
  v50 := Try.zeroValue82
  t53 := Try.underlying173
  a53 := Try.isAgg173
  z53 := Try.sizeOf173
  v53 := Try.zeroValue173
  t55 := Try.underlying175
  a55 := Try.isAgg175
  z55 := Try.sizeOf175
  v55 := Try.zeroValue175
  t66 := Try.underlying195
  a66 := Try.isAgg195
  z66 := Try.sizeOf195
  v66 := Try.zeroValue195
  t70 := Try.underlying199
  a70 := Try.isAgg199
  z70 := Try.sizeOf199
  v70 := Try.zeroValue199
  t76 := Try.underlying203
  a76 := Try.isAgg203
  z76 := Try.sizeOf203
  v76 := Try.zeroValue203
  t77 := Try.underlying204
  a77 := Try.isAgg204
  z77 := Try.sizeOf204
  v77 := Try.zeroValue204 }
end Go.Proofs
-- 450009111d173711aaa0489e7c8a9217b159af2544ffa268d4774f5f1d4a7852
