import Derived.Lib.LaidU8T
import Derived.PinnedBridge
import Derived.KernelRfl
import Derived.Test.YtfejjfbhlmjkeaaDoorModelMore30
import Derived.Test.YtfejjfbhlmjkeaaDoorModelMore4
set_option linter.unusedVariables false
section
namespace Go.Proofs.YtfejjfbhlmjkeaaDoor.W
open Go.RowKit Go.Shelf Go.Lib Go.Proofs
theorem u8types : U8Types Tryd.prog Tryd.lays197_ren := { Tryd.lays197 with }
theorem u8extra : U8Extra Tryd.prog Tryd.lays197_ren := ⟨by kernel_rfl, by kernel_rfl, by kernel_rfl, by kernel_rfl, by kernel_rfl, by kernel_rfl, by kernel_rfl⟩
theorem dec_of {W : World} (h3 : VarReads Tryd.prog W "unicode/utf8.first" firstData) (h4 : VarReads Tryd.prog W "unicode/utf8.acceptRanges" acceptData) : Dec W := by
 have hT := utf8Tabs_of_readsT u8types u8extra h3 h4
 intro s w' hb
 exact Tryd.utf8_DecodeRuneInString s w' (Utf8Tabs_below hT hb)
end Go.Proofs.YtfejjfbhlmjkeaaDoor.W
end
