import Derived.Shelf.Small.Bits
import Derived.Shelf.Utf8.RuneCount
import Derived.Shelf.Strconv.Itoa0
import Derived.Shelf.Strings.Search1
import Derived.Shelf.Strings.Search2
import Derived.Shelf.Strings.Search3
import Derived.Shelf.Strings.Count
import Derived.Shelf.LaysM
import Derived.Shelf.Strings.Shaped
import Derived.Shelf.Strings.Split
import Derived.Shelf.Strings.SplitShaped
import Derived.Shelf.Unicode.Decode
import Derived.Shelf.Strings.RuneCount
import Derived.Shelf.Strings.Explode
import Derived.Shelf.Unicode.DecodeSlow
import Derived.Shelf.Unicode.DecodeAny
import Derived.Test.YtpleiklodomgiaaGreatDoorProg
set_option linter.unusedVariables false
section
namespace Go.Proofs
open Go.Shelf
def Tryz.lays144_ren : Go.Shelf.Ren := ⟨fun | 144 => 51 | 143 => 66 | 219 => 85 | 217 => 97 | 225 => 98 | 224 => 99 | 267 => 100 | 266 => 105 | 314 => 106 | n => n, fun | 9 => 9 | 4 => 4 | 3 => 3 | 5 => 5 | 46 => 74 | 146 => 139 | 51 => 111 | n => n, fun | 1 => 0 | n => n⟩
theorem Tryz.lays144 : Go.Proofs.Lays.n144 Tryz.prog Tryz.lays144_ren := {
 mixed := by kernel_rfl
 f143 := Tryz.func66.trans (congrArg some (by kernel_rfl))
 f144 := Tryz.func51.trans (congrArg some (by kernel_rfl))
 f217 := Tryz.func97.trans (congrArg some (by kernel_rfl))
 f219 := Tryz.func85.trans (congrArg some (by kernel_rfl))
 f224 := Tryz.func99.trans (congrArg some (by kernel_rfl))
 f225 := Tryz.func98.trans (congrArg some (by kernel_rfl))
 f266 := Tryz.func105.trans (congrArg some (by kernel_rfl))
 f267 := Tryz.func100.trans (congrArg some (by kernel_rfl))
 f314 := Tryz.func106.trans (congrArg some (by kernel_rfl))
 t3 := Tryz.underlying3
 a3 := Tryz.isAgg3
 z3 := Tryz.sizeOf3
 v3 := Tryz.zeroValue3
 t4 := Tryz.underlying4
 a4 := Tryz.isAgg4
 z4 := Tryz.sizeOf4
 v4 := Tryz.zeroValue4
 t5 := Tryz.underlying5
 a5 := Tryz.isAgg5
 z5 := Tryz.sizeOf5
 v5 := Tryz.zeroValue5
 t9 := Tryz.underlying9
 a9 := Tryz.isAgg9
 z9 := Tryz.sizeOf9
 v9 := Tryz.zeroValue9
 t46 := Tryz.underlying74
 a46 := Tryz.isAgg74
 z46 := Tryz.sizeOf74
 v46 := Tryz.zeroValue74
 t51 := Tryz.underlying111
 a51 := Tryz.isAgg111
 z51 := Tryz.sizeOf111
 v51 := Tryz.zeroValue111
 t146 := Tryz.underlying139
 a146 := Tryz.isAgg139
 z146 := Tryz.sizeOf139
 v146 := Tryz.zeroValue139
 g1 := by kernel_rfl }
open Go.RowKit Go.Lib in
theorem Tryz.strings_Contains (s sub : ByteArray) (m : Int) (w : World) (hs : s.size < 4294967281) (hm : w.cell? ⟨0, 0, none⟩ = some (.int .i64 m)) :
  Calls Tryz.prog 51 #[.string s, .string sub] w fun e w' => e = .returned (.bool (Lib.contains s.data.toList sub.data.toList)) ∧ w' = w := Any.strings_Contains Tryz.lays144 s sub m w hs hm
end Go.Proofs
end
section
namespace Go.Proofs
open Go.Shelf
def Tryz.lays197_ren : Go.Shelf.Ren := ⟨fun | 197 => 93 | 260 => 104 | n => n, fun | 9 => 9 | 21 => 21 | 3 => 3 | 4 => 4 | 5 => 5 | 105 => 130 | 119 => 142 | 0 => 0 | 46 => 74 | 139 => 145 | 138 => 144 | n => n, fun | 3 => 1 | 4 => 2 | n => n⟩
theorem Tryz.lays197 : Go.Proofs.Lays.n197 Tryz.prog Tryz.lays197_ren := {
 mixed := by kernel_rfl
 f197 := Tryz.func93.trans (congrArg some (by kernel_rfl))
 f260 := Tryz.func104.trans (congrArg some (by kernel_rfl))
 t0 := Tryz.underlying0
 a0 := Tryz.isAgg0
 z0 := Tryz.sizeOf0
 v0 := Tryz.zeroValue0
 t3 := Tryz.underlying3
 a3 := Tryz.isAgg3
 z3 := Tryz.sizeOf3
 v3 := Tryz.zeroValue3
 t4 := Tryz.underlying4
 a4 := Tryz.isAgg4
 z4 := Tryz.sizeOf4
 v4 := Tryz.zeroValue4
 t5 := Tryz.underlying5
 a5 := Tryz.isAgg5
 z5 := Tryz.sizeOf5
 v5 := Tryz.zeroValue5
 t9 := Tryz.underlying9
 a9 := Tryz.isAgg9
 z9 := Tryz.sizeOf9
 v9 := Tryz.zeroValue9
 t21 := Tryz.underlying21
 a21 := Tryz.isAgg21
 z21 := Tryz.sizeOf21
 v21 := Tryz.zeroValue21
 t46 := Tryz.underlying74
 a46 := Tryz.isAgg74
 z46 := Tryz.sizeOf74
 v46 := Tryz.zeroValue74
 t105 := Tryz.underlying130
 a105 := Tryz.isAgg130
 z105 := Tryz.sizeOf130
 v105 := Tryz.zeroValue130
 t119 := Tryz.underlying142
 a119 := Tryz.isAgg142
 z119 := Tryz.sizeOf142
 t138 := Tryz.underlying144
 a138 := Tryz.isAgg144
 z138 := Tryz.sizeOf144
 v138 := Tryz.zeroValue144
 t139 := Tryz.underlying145
 a139 := Tryz.isAgg145
 z139 := Tryz.sizeOf145
 v139 := Tryz.zeroValue145
 g3 := by kernel_rfl
 g4 := by kernel_rfl }
open Go.RowKit Go.Lib in
theorem Tryz.utf8_DecodeRuneInString (s : ByteArray) (w : World) (hT : Lib.Utf8Tabs 1 2 w) :
  Calls Tryz.prog 93 #[.string s] w fun e w' => e = .returned (.tuple #[.int .i32 (Lib.decodeGo s).1, .int .i64 (Lib.decodeGo s).2]) ∧ Below w.heap.size w w' := Any.utf8_DecodeRuneInString Tryz.lays197 s w hT
end Go.Proofs
end
section
namespace Go.Proofs
open Go.Shelf
def Tryz.lays146_ren : Go.Shelf.Ren := ⟨fun | 146 => 68 | 221 => 87 | 268 => 101 | 138 => 102 | 143 => 66 | 195 => 107 | 197 => 93 | 218 => 108 | 219 => 85 | 260 => 104 | 217 => 97 | 225 => 98 | 224 => 99 | 267 => 100 | 266 => 105 | 314 => 106 | n => n, fun | 9 => 9 | 31 => 59 | 3 => 3 | 4 => 4 | 0 => 0 | 105 => 130 | 21 => 21 | 5 => 5 | 46 => 74 | 119 => 142 | 139 => 145 | 138 => 144 | 146 => 139 | 51 => 111 | n => n, fun | 1 => 0 | 3 => 1 | 4 => 2 | n => n⟩
theorem Tryz.lays146 : Go.Proofs.Lays.n146 Tryz.prog Tryz.lays146_ren := {
 mixed := by kernel_rfl
 f138 := Tryz.func102.trans (congrArg some (by kernel_rfl))
 f143 := Tryz.func66.trans (congrArg some (by kernel_rfl))
 f146 := Tryz.func68.trans (congrArg some (by kernel_rfl))
 f195 := Tryz.func107.trans (congrArg some (by kernel_rfl))
 f197 := Tryz.func93.trans (congrArg some (by kernel_rfl))
 f217 := Tryz.func97.trans (congrArg some (by kernel_rfl))
 f218 := Tryz.func108.trans (congrArg some (by kernel_rfl))
 f219 := Tryz.func85.trans (congrArg some (by kernel_rfl))
 f221 := Tryz.func87.trans (congrArg some (by kernel_rfl))
 f224 := Tryz.func99.trans (congrArg some (by kernel_rfl))
 f225 := Tryz.func98.trans (congrArg some (by kernel_rfl))
 f260 := Tryz.func104.trans (congrArg some (by kernel_rfl))
 f266 := Tryz.func105.trans (congrArg some (by kernel_rfl))
 f267 := Tryz.func100.trans (congrArg some (by kernel_rfl))
 f268 := Tryz.func101.trans (congrArg some (by kernel_rfl))
 f314 := Tryz.func106.trans (congrArg some (by kernel_rfl))
 t0 := Tryz.underlying0
 a0 := Tryz.isAgg0
 z0 := Tryz.sizeOf0
 v0 := Tryz.zeroValue0
 t3 := Tryz.underlying3
 a3 := Tryz.isAgg3
 z3 := Tryz.sizeOf3
 v3 := Tryz.zeroValue3
 t4 := Tryz.underlying4
 a4 := Tryz.isAgg4
 z4 := Tryz.sizeOf4
 v4 := Tryz.zeroValue4
 t5 := Tryz.underlying5
 a5 := Tryz.isAgg5
 z5 := Tryz.sizeOf5
 v5 := Tryz.zeroValue5
 t9 := Tryz.underlying9
 a9 := Tryz.isAgg9
 z9 := Tryz.sizeOf9
 v9 := Tryz.zeroValue9
 t21 := Tryz.underlying21
 a21 := Tryz.isAgg21
 z21 := Tryz.sizeOf21
 v21 := Tryz.zeroValue21
 t31 := Tryz.underlying59
 a31 := Tryz.isAgg59
 z31 := Tryz.sizeOf59
 v31 := Tryz.zeroValue59
 t46 := Tryz.underlying74
 a46 := Tryz.isAgg74
 z46 := Tryz.sizeOf74
 v46 := Tryz.zeroValue74
 t51 := Tryz.underlying111
 a51 := Tryz.isAgg111
 z51 := Tryz.sizeOf111
 v51 := Tryz.zeroValue111
 t105 := Tryz.underlying130
 a105 := Tryz.isAgg130
 z105 := Tryz.sizeOf130
 v105 := Tryz.zeroValue130
 t119 := Tryz.underlying142
 a119 := Tryz.isAgg142
 z119 := Tryz.sizeOf142
 t138 := Tryz.underlying144
 a138 := Tryz.isAgg144
 z138 := Tryz.sizeOf144
 v138 := Tryz.zeroValue144
 t139 := Tryz.underlying145
 a139 := Tryz.isAgg145
 z139 := Tryz.sizeOf145
 v139 := Tryz.zeroValue145
 t146 := Tryz.underlying139
 a146 := Tryz.isAgg139
 z146 := Tryz.sizeOf139
 v146 := Tryz.zeroValue139
 g1 := by kernel_rfl
 g3 := by kernel_rfl
 g4 := by kernel_rfl }
open Go.RowKit Go.Lib in
theorem Tryz.strings_Split (s sep : ByteArray) (m : Int) (w : World) (hs : s.size < 4294967281) (hm : w.cell? ⟨0, 0, none⟩ = some (.int .i64 m)) (h1 : 1 ≤ sep.size) :
  Calls Tryz.prog 68 #[.string s, .string sep] w fun e w' =>
   e = .returned (.slice (some ⟨w.heap.size, 0, none⟩) (Lib.countB s sep + 1) (Lib.countB s sep + 1)) ∧ w' = w.alloc (.cells ((Lib.splitB sep 0 (Lib.countB s sep) s).map Value.string).toArray 9) := Any.strings_Split Tryz.lays146 (by kernel_rfl) s sep m w hs hm h1
end Go.Proofs
end
