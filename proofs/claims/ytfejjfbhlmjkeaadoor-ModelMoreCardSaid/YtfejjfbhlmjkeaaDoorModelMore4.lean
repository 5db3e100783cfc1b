import Derived.Shelf.Small.Bits
import Derived.Shelf.Utf8.RuneCount
import Derived.Shelf.Strconv.Itoa0
import Derived.Shelf.Strings.Search1
import Derived.Shelf.Strings.Search2
import Derived.Shelf.Strings.Search3
import Derived.Shelf.Strings.Count
import Derived.Shelf.LaysM
import Derived.Shelf.Strings.Shaped
import Derived.Shelf.Strings.Split
import Derived.Shelf.Strings.SplitShaped
import Derived.Shelf.Unicode.Decode
import Derived.Shelf.Strings.RuneCount
import Derived.Shelf.Strings.Explode
import Derived.Shelf.Unicode.DecodeSlow
import Derived.Shelf.Unicode.DecodeAny
import Derived.Test.YtfejjfbhlmjkeaaDoorProg
set_option linter.unusedVariables false
section
namespace Go.Proofs
open Go.Shelf
def Tryd.lays144_ren : Go.Shelf.Ren := ⟨fun | 144 => 23 | 143 => 47 | 219 => 69 | 217 => 83 | 225 => 84 | 224 => 85 | 267 => 86 | 266 => 98 | 314 => 99 | n => n, fun | 9 => 9 | 4 => 4 | 3 => 3 | 5 => 5 | 46 => 99 | 146 => 123 | 51 => 122 | n => n, fun | 1 => 0 | n => n⟩
theorem Tryd.lays144 : Go.Proofs.Lays.n144 Tryd.prog Tryd.lays144_ren := {
 mixed := by kernel_rfl
 f143 := Tryd.func47.trans (congrArg some (by kernel_rfl))
 f144 := Tryd.func23.trans (congrArg some (by kernel_rfl))
 f217 := Tryd.func83.trans (congrArg some (by kernel_rfl))
 f219 := Tryd.func69.trans (congrArg some (by kernel_rfl))
 f224 := Tryd.func85.trans (congrArg some (by kernel_rfl))
 f225 := Tryd.func84.trans (congrArg some (by kernel_rfl))
 f266 := Tryd.func98.trans (congrArg some (by kernel_rfl))
 f267 := Tryd.func86.trans (congrArg some (by kernel_rfl))
 f314 := Tryd.func99.trans (congrArg some (by kernel_rfl))
 t3 := Tryd.underlying3
 a3 := Tryd.isAgg3
 z3 := Tryd.sizeOf3
 v3 := Tryd.zeroValue3
 t4 := Tryd.underlying4
 a4 := Tryd.isAgg4
 z4 := Tryd.sizeOf4
 v4 := Tryd.zeroValue4
 t5 := Tryd.underlying5
 a5 := Tryd.isAgg5
 z5 := Tryd.sizeOf5
 v5 := Tryd.zeroValue5
 t9 := Tryd.underlying9
 a9 := Tryd.isAgg9
 z9 := Tryd.sizeOf9
 v9 := Tryd.zeroValue9
 t46 := Tryd.underlying99
 a46 := Tryd.isAgg99
 z46 := Tryd.sizeOf99
 v46 := Tryd.zeroValue99
 t51 := Tryd.underlying122
 a51 := Tryd.isAgg122
 z51 := Tryd.sizeOf122
 v51 := Tryd.zeroValue122
 t146 := Tryd.underlying123
 a146 := Tryd.isAgg123
 z146 := Tryd.sizeOf123
 v146 := Tryd.zeroValue123
 g1 := by kernel_rfl }
open Go.RowKit Go.Lib in
theorem Tryd.strings_Contains (s sub : ByteArray) (m : Int) (w : World) (hs : s.size < 4294967281) (hm : w.cell? ⟨0, 0, none⟩ = some (.int .i64 m)) :
  Calls Tryd.prog 23 #[.string s, .string sub] w fun e w' => e = .returned (.bool (Lib.contains s.data.toList sub.data.toList)) ∧ w' = w := Any.strings_Contains Tryd.lays144 s sub m w hs hm
end Go.Proofs
end
section
namespace Go.Proofs
open Go.Shelf
def Tryd.lays197_ren : Go.Shelf.Ren := ⟨fun | 197 => 65 | 260 => 82 | n => n, fun | 9 => 9 | 21 => 21 | 3 => 3 | 4 => 4 | 5 => 5 | 105 => 91 | 119 => 118 | 0 => 0 | 46 => 99 | 139 => 121 | 138 => 120 | n => n, fun | 3 => 1 | 4 => 2 | n => n⟩
theorem Tryd.lays197 : Go.Proofs.Lays.n197 Tryd.prog Tryd.lays197_ren := {
 mixed := by kernel_rfl
 f197 := Tryd.func65.trans (congrArg some (by kernel_rfl))
 f260 := Tryd.func82.trans (congrArg some (by kernel_rfl))
 t0 := Tryd.underlying0
 a0 := Tryd.isAgg0
 z0 := Tryd.sizeOf0
 v0 := Tryd.zeroValue0
 t3 := Tryd.underlying3
 a3 := Tryd.isAgg3
 z3 := Tryd.sizeOf3
 v3 := Tryd.zeroValue3
 t4 := Tryd.underlying4
 a4 := Tryd.isAgg4
 z4 := Tryd.sizeOf4
 v4 := Tryd.zeroValue4
 t5 := Tryd.underlying5
 a5 := Tryd.isAgg5
 z5 := Tryd.sizeOf5
 v5 := Tryd.zeroValue5
 t9 := Tryd.underlying9
 a9 := Tryd.isAgg9
 z9 := Tryd.sizeOf9
 v9 := Tryd.zeroValue9
 t21 := Tryd.underlying21
 a21 := Tryd.isAgg21
 z21 := Tryd.sizeOf21
 v21 := Tryd.zeroValue21
 t46 := Tryd.underlying99
 a46 := Tryd.isAgg99
 z46 := Tryd.sizeOf99
 v46 := Tryd.zeroValue99
 t105 := Tryd.underlying91
 a105 := Tryd.isAgg91
 z105 := Tryd.sizeOf91
 v105 := Tryd.zeroValue91
 t119 := Tryd.underlying118
 a119 := Tryd.isAgg118
 z119 := Tryd.sizeOf118
 t138 := Tryd.underlying120
 a138 := Tryd.isAgg120
 z138 := Tryd.sizeOf120
 v138 := Tryd.zeroValue120
 t139 := Tryd.underlying121
 a139 := Tryd.isAgg121
 z139 := Tryd.sizeOf121
 v139 := Tryd.zeroValue121
 g3 := by kernel_rfl
 g4 := by kernel_rfl }
open Go.RowKit Go.Lib in
theorem Tryd.utf8_DecodeRuneInString (s : ByteArray) (w : World) (hT : Lib.Utf8Tabs 1 2 w) :
  Calls Tryd.prog 65 #[.string s] w fun e w' => e = .returned (.tuple #[.int .i32 (Lib.decodeGo s).1, .int .i64 (Lib.decodeGo s).2]) ∧ Below w.heap.size w w' := Any.utf8_DecodeRuneInString Tryd.lays197 s w hT
end Go.Proofs
end
section
namespace Go.Proofs
open Go.Shelf
def Tryd.lays146_ren : Go.Shelf.Ren := ⟨fun | 146 => 72 | 221 => 88 | 268 => 100 | 138 => 101 | 143 => 47 | 195 => 114 | 197 => 65 | 218 => 115 | 219 => 69 | 260 => 82 | 217 => 83 | 225 => 84 | 224 => 85 | 267 => 86 | 266 => 98 | 314 => 99 | n => n, fun | 9 => 9 | 31 => 23 | 3 => 3 | 4 => 4 | 0 => 0 | 105 => 91 | 21 => 21 | 5 => 5 | 46 => 99 | 119 => 118 | 139 => 121 | 138 => 120 | 146 => 123 | 51 => 122 | n => n, fun | 1 => 0 | 3 => 1 | 4 => 2 | n => n⟩
theorem Tryd.lays146 : Go.Proofs.Lays.n146 Tryd.prog Tryd.lays146_ren := {
 mixed := by kernel_rfl
 f138 := Tryd.func101.trans (congrArg some (by kernel_rfl))
 f143 := Tryd.func47.trans (congrArg some (by kernel_rfl))
 f146 := Tryd.func72.trans (congrArg some (by kernel_rfl))
 f195 := Tryd.func114.trans (congrArg some (by kernel_rfl))
 f197 := Tryd.func65.trans (congrArg some (by kernel_rfl))
 f217 := Tryd.func83.trans (congrArg some (by kernel_rfl))
 f218 := Tryd.func115.trans (congrArg some (by kernel_rfl))
 f219 := Tryd.func69.trans (congrArg some (by kernel_rfl))
 f221 := Tryd.func88.trans (congrArg some (by kernel_rfl))
 f224 := Tryd.func85.trans (congrArg some (by kernel_rfl))
 f225 := Tryd.func84.trans (congrArg some (by kernel_rfl))
 f260 := Tryd.func82.trans (congrArg some (by kernel_rfl))
 f266 := Tryd.func98.trans (congrArg some (by kernel_rfl))
 f267 := Tryd.func86.trans (congrArg some (by kernel_rfl))
 f268 := Tryd.func100.trans (congrArg some (by kernel_rfl))
 f314 := Tryd.func99.trans (congrArg some (by kernel_rfl))
 t0 := Tryd.underlying0
 a0 := Tryd.isAgg0
 z0 := Tryd.sizeOf0
 v0 := Tryd.zeroValue0
 t3 := Tryd.underlying3
 a3 := Tryd.isAgg3
 z3 := Tryd.sizeOf3
 v3 := Tryd.zeroValue3
 t4 := Tryd.underlying4
 a4 := Tryd.isAgg4
 z4 := Tryd.sizeOf4
 v4 := Tryd.zeroValue4
 t5 := Tryd.underlying5
 a5 := Tryd.isAgg5
 z5 := Tryd.sizeOf5
 v5 := Tryd.zeroValue5
 t9 := Tryd.underlying9
 a9 := Tryd.isAgg9
 z9 := Tryd.sizeOf9
 v9 := Tryd.zeroValue9
 t21 := Tryd.underlying21
 a21 := Tryd.isAgg21
 z21 := Tryd.sizeOf21
 v21 := Tryd.zeroValue21
 t31 := Tryd.underlying23
 a31 := Tryd.isAgg23
 z31 := Tryd.sizeOf23
 v31 := Tryd.zeroValue23
 t46 := Tryd.underlying99
 a46 := Tryd.isAgg99
 z46 := Tryd.sizeOf99
 v46 := Tryd.zeroValue99
 t51 := Tryd.underlying122
 a51 := Tryd.isAgg122
 z51 := Tryd.sizeOf122
 v51 := Tryd.zeroValue122
 t105 := Tryd.underlying91
 a105 := Tryd.isAgg91
 z105 := Tryd.sizeOf91
 v105 := Tryd.zeroValue91
 t119 := Tryd.underlying118
 a119 := Tryd.isAgg118
 z119 := Tryd.sizeOf118
 t138 := Tryd.underlying120
 a138 := Tryd.isAgg120
 z138 := Tryd.sizeOf120
 v138 := Tryd.zeroValue120
 t139 := Tryd.underlying121
 a139 := Tryd.isAgg121
 z139 := Tryd.sizeOf121
 v139 := Tryd.zeroValue121
 t146 := Tryd.underlying123
 a146 := Tryd.isAgg123
 z146 := Tryd.sizeOf123
 v146 := Tryd.zeroValue123
 g1 := by kernel_rfl
 g3 := by kernel_rfl
 g4 := by kernel_rfl }
open Go.RowKit Go.Lib in
theorem Tryd.strings_Split (s sep : ByteArray) (m : Int) (w : World) (hs : s.size < 4294967281) (hm : w.cell? ⟨0, 0, none⟩ = some (.int .i64 m)) (h1 : 1 ≤ sep.size) :
  Calls Tryd.prog 72 #[.string s, .string sep] w fun e w' =>
   e = .returned (.slice (some ⟨w.heap.size, 0, none⟩) (Lib.countB s sep + 1) (Lib.countB s sep + 1)) ∧ w' = w.alloc (.cells ((Lib.splitB sep 0 (Lib.countB s sep) s).map Value.string).toArray 9) := Any.strings_Split Tryd.lays146 (by kernel_rfl) s sep m w hs hm h1
end Go.Proofs
end
