/- Texts of this claim (printed ones, too), put together by a program that left out what the claim does not use. -/
import Derived.Shelf.SlSortCmp.WholeK
import Derived.Shelf.SlicesE.Clone
import Derived.Test.YtfejjfbhlmjkeaaProg
section
namespace Go.Proofs
open Go.Shelf
def Try.sortEnt_ren : Go.Shelf.Ren := ⟨fun | 6 => 56 | 15 => 80 | 14 => 79 | 28 => 93 | 29 => 94 | 20 => 85 | 21 => 86 | 22 => 87 | 23 => 88 | 24 => 89 | 25 => 90 | 26 => 91 | 27 => 92 | 46 => 96 | 47 => 97 | 48 => 98 | 49 => 99 | 50 => 100 | 57 => 105 | n => n, fun | 22 => 40 | 24 => 34 | 25 => 37 | 3 => 3 | 39 => 94 | 0 => 0 | 53 => 106 | 55 => 81 | 4 => 4 | 46 => 99 | 45 => 98 | 50 => 103 | 5 => 5 | 9 => 9 | 66 => 107 | 70 => 111 | 76 => 115 | 77 => 116 | n => n, fun | n => n⟩
theorem Try.sortEnt : Go.Proofs.SlLaysF0.n6 Try.prog Try.sortEnt_ren := {
  mixed := by kernel_rfl
  f6 := ⟨Try.f56.name, by decide, Try.func56.trans (congrArg some (by kernel_rfl))⟩
  f14 := ⟨Try.f79.name, by decide, Try.func79.trans (congrArg some (by kernel_rfl))⟩
  f15 := Try.func80.trans (congrArg some (by kernel_rfl))
  f20 := ⟨Try.f85.name, by decide, Try.func85.trans (congrArg some (by kernel_rfl))⟩
  f21 := ⟨Try.f86.name, by decide, Try.func86.trans (congrArg some (by kernel_rfl))⟩
  f22 := ⟨Try.f87.name, by decide, Try.func87.trans (congrArg some (by kernel_rfl))⟩
  f23 := ⟨Try.f88.name, by decide, Try.func88.trans (congrArg some (by kernel_rfl))⟩
  f24 := ⟨Try.f89.name, by decide, Try.func89.trans (congrArg some (by kernel_rfl))⟩
  f25 := ⟨Try.f90.name, by decide, Try.func90.trans (congrArg some (by kernel_rfl))⟩
  f26 := ⟨Try.f91.name, by decide, Try.func91.trans (congrArg some (by kernel_rfl))⟩
  f27 := ⟨Try.f92.name, by decide, Try.func92.trans (congrArg some (by kernel_rfl))⟩
  f28 := Try.func93.trans (congrArg some (by kernel_rfl))
  f29 := Try.func94.trans (congrArg some (by kernel_rfl))
  f46 := ⟨Try.f96.name, by decide, Try.func96.trans (congrArg some (by kernel_rfl))⟩
  f47 := Try.func97.trans (congrArg some (by kernel_rfl))
  f48 := Try.func98.trans (congrArg some (by kernel_rfl))
  f49 := ⟨Try.f99.name, by decide, Try.func99.trans (congrArg some (by kernel_rfl))⟩
  f50 := ⟨Try.f100.name, by decide, Try.func100.trans (congrArg some (by kernel_rfl))⟩
  f57 := ⟨Try.f105.name, by decide, Try.func105.trans (congrArg some (by kernel_rfl))⟩
  t0 := Try.underlying0
  a0 := Try.isAgg0
  z0 := Try.sizeOf0
  v0 := Try.zeroValue0
  t3 := Try.underlying3
  a3 := Try.isAgg3
  z3 := Try.sizeOf3
  v3 := Try.zeroValue3
  t4 := Try.underlying4
  a4 := Try.isAgg4
  z4 := Try.sizeOf4
  v4 := Try.zeroValue4
  t5 := Try.underlying5
  a5 := Try.isAgg5
  z5 := Try.sizeOf5
  v5 := Try.zeroValue5
  t9 := Try.underlying9
  a9 := Try.isAgg9
  z9 := Try.sizeOf9
  v9 := Try.zeroValue9
  t22 := Try.underlying40
  a22 := Try.isAgg40
  z22 := Try.sizeOf40
  v22 := Try.zeroValue40
  t25 := Try.underlying37
  a25 := Try.isAgg37
  z25 := Try.sizeOf37
  v25 := Try.zeroValue37
  t39 := Try.underlying94
  a39 := Try.isAgg94
  z39 := Try.sizeOf94
  v39 := Try.zeroValue94
  t45 := Try.underlying98
  a45 := Try.isAgg98
  z45 := Try.sizeOf98
  v45 := Try.zeroValue98
  t46 := Try.underlying99
  a46 := Try.isAgg99
  z46 := Try.sizeOf99
  v46 := Try.zeroValue99
  t50 := Try.underlying103
  a50 := Try.isAgg103
  z50 := Try.sizeOf103
  v50 := Try.zeroValue103
  t53 := Try.underlying106
  a53 := Try.isAgg106
  z53 := Try.sizeOf106
  v53 := Try.zeroValue106
  t55 := Try.underlying81
  a55 := Try.isAgg81
  z55 := Try.sizeOf81
  v55 := Try.zeroValue81
  t66 := Try.underlying107
  a66 := Try.isAgg107
  z66 := Try.sizeOf107
  v66 := Try.zeroValue107
  t70 := Try.underlying111
  a70 := Try.isAgg111
  z70 := Try.sizeOf111
  v70 := Try.zeroValue111
  t76 := Try.underlying115
  a76 := Try.isAgg115
  z76 := Try.sizeOf115
  v76 := Try.zeroValue115
  t77 := Try.underlying116
  a77 := Try.isAgg116
  z77 := Try.sizeOf116
  v77 := Try.zeroValue116 }
def Try.cloneEnt_ren : Go.Shelf.Ren := ⟨fun | 41 => 55 | n => n, fun | 22 => 40 | 23 => 34 | 4 => 4 | n => n, fun | n => n⟩
theorem Try.cloneEnt : Go.Proofs.SlLaysE0.n41 Try.prog Try.cloneEnt_ren := {
  mixed := by kernel_rfl
  f41 := ⟨Try.f55.name, by decide, Try.func55.trans (congrArg some (by kernel_rfl))⟩
  t4 := Try.underlying4
  a4 := Try.isAgg4
  z4 := Try.sizeOf4
  v4 := Try.zeroValue4
  t22 := Try.underlying40
  a22 := Try.isAgg40
  z22 := Try.sizeOf40
  v22 := Try.zeroValue40 }
end Go.Proofs
end
