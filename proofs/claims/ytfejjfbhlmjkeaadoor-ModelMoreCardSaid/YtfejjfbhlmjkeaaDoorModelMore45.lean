import Derived.Test.YtfejjfbhlmjkeaaDoorModelMore37
import Derived.Test.YtfejjfbhlmjkeaaDoorModelMore44
import Derived.Test.YtfejjfbhlmjkeaaDoorModelMore4
set_option linter.unusedVariables false
section
namespace Go.Proofs.YtfejjfbhlmjkeaaDoor.W
end Go.Proofs.YtfejjfbhlmjkeaaDoor.W
namespace Go.Proofs.YtfejjfbhlmjkeaaDoor.M
open Go.RowKit Go.Shelf Go.Lib Go.Proofs Go.Proofs.YtfejjfbhlmjkeaaDoorW.PrintWords Go.Proofs.YtfejjfbhlmjkeaaDoor.W
theorem spl_of {W : World} (h : W.ShapedOpen Tryd.prog) : Spl W := by
 obtain ⟨m, hm⟩ := cell_of_shapedOpen_int (P := Tryd.prog) (g := 0) (t := 3) (zero := #[.int .i64 0]) h (of_decide_eq_true (by kernel_rfl)) (by kernel_rfl) rfl (by kernel_rfl) (by kernel_rfl) Tryd.underlying3
 intro s w' hs hb
 exact Tryd.strings_Split s ⟨#[32]⟩ m w' hs (pw_cell_below hb hm) (by decide)
end Go.Proofs.YtfejjfbhlmjkeaaDoor.M
end
