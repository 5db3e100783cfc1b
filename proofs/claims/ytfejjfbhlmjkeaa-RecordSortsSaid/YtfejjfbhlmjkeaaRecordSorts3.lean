/- Texts of this claim (printed ones, too), put together by a program that left out what the claim does not use. -/
import Derived.Shelf.Small.Bits
import Derived.Shelf.Strconv.Itoa0
import Derived.Shelf.Strings.Search1
import Derived.Shelf.Strings.Search2
import Derived.Shelf.Strings.Search3
import Derived.Shelf.LaysM
import Derived.Shelf.Strings.Shaped
import Derived.Test.YtfejjfbhlmjkeaaProg
section
set_option linter.unusedVariables false
namespace Go.Proofs
open Go.Shelf
def Try.lays144_ren : Go.Shelf.Ren := ⟨fun | 144 => 62 | 143 => 82 | 219 => 95 | 217 => 101 | 225 => 102 | 224 => 103 | 267 => 104 | 266 => 106 | 314 => 107 | n => n, fun | 9 => 9 | 4 => 4 | 3 => 3 | 5 => 5 | 46 => 94 | 146 => 118 | 51 => 106 | n => n, fun | 1 => 0 | n => n⟩
theorem Try.lays144 : Go.Proofs.Lays.n144 Try.prog Try.lays144_ren := {
  mixed := by kernel_rfl
  f143 := Try.func82.trans (congrArg some (by kernel_rfl))
  f144 := Try.func62.trans (congrArg some (by kernel_rfl))
  f217 := Try.func101.trans (congrArg some (by kernel_rfl))
  f219 := Try.func95.trans (congrArg some (by kernel_rfl))
  f224 := Try.func103.trans (congrArg some (by kernel_rfl))
  f225 := Try.func102.trans (congrArg some (by kernel_rfl))
  f266 := Try.func106.trans (congrArg some (by kernel_rfl))
  f267 := Try.func104.trans (congrArg some (by kernel_rfl))
  f314 := Try.func107.trans (congrArg some (by kernel_rfl))
  t3 := Try.underlying3
  a3 := Try.isAgg3
  z3 := Try.sizeOf3
  v3 := Try.zeroValue3
  t4 := Try.underlying4
  a4 := Try.isAgg4
  z4 := Try.sizeOf4
  v4 := Try.zeroValue4
  t5 := Try.underlying5
  a5 := Try.isAgg5
  z5 := Try.sizeOf5
  v5 := Try.zeroValue5
  t9 := Try.underlying9
  a9 := Try.isAgg9
  z9 := Try.sizeOf9
  v9 := Try.zeroValue9
  t46 := Try.underlying94
  a46 := Try.isAgg94
  z46 := Try.sizeOf94
  v46 := Try.zeroValue94
  t51 := Try.underlying106
  a51 := Try.isAgg106
  z51 := Try.sizeOf106
  v51 := Try.zeroValue106
  t146 := Try.underlying118
  a146 := Try.isAgg118
  z146 := Try.sizeOf118
  v146 := Try.zeroValue118
  g1 := by kernel_rfl }
open Go.RowKit Go.Lib in
theorem Try.strings_Contains (s sub : ByteArray) (m : Int) (w : World) (hs : s.size < 4294967281) (hm : w.cell? ⟨0, 0, none⟩ = some (.int .i64 m)) :
    Calls Try.prog 62 #[.string s, .string sub] w fun e w' => e = .returned (.bool (Lib.contains s.data.toList sub.data.toList)) ∧ w' = w := Any.strings_Contains Try.lays144 s sub m w hs hm
end Go.Proofs
end
