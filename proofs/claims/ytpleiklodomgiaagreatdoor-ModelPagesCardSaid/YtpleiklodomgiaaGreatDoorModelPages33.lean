import Derived.Lib.LaidU8T
import Derived.PinnedBridge
import Derived.KernelRfl
import Derived.Test.YtpleiklodomgiaaGreatDoorModelPages30
import Derived.Test.YtpleiklodomgiaaGreatDoorModelPages4
set_option linter.unusedVariables false
section
namespace Go.Proofs.YtpleiklodomgiaaGreatDoor.W
open Go.RowKit Go.Shelf Go.Lib Go.Proofs
theorem u8types : U8Types Tryz.prog Tryz.lays197_ren := { Tryz.lays197 with }
theorem u8extra : U8Extra Tryz.prog Tryz.lays197_ren := ⟨by kernel_rfl, by kernel_rfl, by kernel_rfl, by kernel_rfl, by kernel_rfl, by kernel_rfl, by kernel_rfl⟩
theorem dec_of {W : World} (h3 : VarReads Tryz.prog W "unicode/utf8.first" firstData) (h4 : VarReads Tryz.prog W "unicode/utf8.acceptRanges" acceptData) : Dec W := by
 have hT := utf8Tabs_of_readsT u8types u8extra h3 h4
 intro s w' hb
 exact Tryz.utf8_DecodeRuneInString s w' (Utf8Tabs_below hT hb)
end Go.Proofs.YtpleiklodomgiaaGreatDoor.W
end
