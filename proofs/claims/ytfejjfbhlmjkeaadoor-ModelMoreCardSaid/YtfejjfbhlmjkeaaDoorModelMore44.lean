import Derived.Shelf.Vars
import Derived.KernelRfl
import Derived.Test.YtfejjfbhlmjkeaaDoorModelMore31
import Derived.Test.YtfejjfbhlmjkeaaDoorModelMore33
import Derived.Test.YtfejjfbhlmjkeaaDoorModelMore4
import Derived.Test.YtfejjfbhlmjkeaaDoorModelMore43
set_option linter.unusedVariables false
section
namespace Go.Proofs.YtfejjfbhlmjkeaaDoor.W
open Go.RowKit Go.Shelf Go.Lib Go.Proofs Go.Proofs.YtfejjfbhlmjkeaaDoorW.PrintWords
theorem con_of {W : World} (h : W.ShapedOpen Tryd.prog) : Con W := by
 obtain ⟨m, hm⟩ := cell_of_shapedOpen_int (P := Tryd.prog) (g := 0) (t := 3) (zero := #[.int .i64 0]) h (of_decide_eq_true (by kernel_rfl)) (by kernel_rfl) rfl (by kernel_rfl) (by kernel_rfl) Tryd.underlying3
 intro s sub w' hs hb
 exact Tryd.strings_Contains s sub m w' hs (pw_cell_below hb hm)
end Go.Proofs.YtfejjfbhlmjkeaaDoor.W
end
