import Derived.Shelf.Vars
import Derived.KernelRfl
import Derived.Test.YtpleiklodomgiaaGreatDoorModelPages31
import Derived.Test.YtpleiklodomgiaaGreatDoorModelPages33
import Derived.Test.YtpleiklodomgiaaGreatDoorModelPages4
import Derived.Test.YtpleiklodomgiaaGreatDoorModelPages43
set_option linter.unusedVariables false
section
namespace Go.Proofs.YtpleiklodomgiaaGreatDoor.W
open Go.RowKit Go.Shelf Go.Lib Go.Proofs Go.Proofs.YtpleiklodomgiaaGreatDoorW.PrintWords
theorem con_of {W : World} (h : W.ShapedOpen Tryz.prog) : Con W := by
 obtain ⟨m, hm⟩ := cell_of_shapedOpen_int (P := Tryz.prog) (g := 0) (t := 3) (zero := #[.int .i64 0]) h (of_decide_eq_true (by kernel_rfl)) (by kernel_rfl) rfl (by kernel_rfl) (by kernel_rfl) Tryz.underlying3
 intro s sub w' hs hb
 exact Tryz.strings_Contains s sub m w' hs (pw_cell_below hb hm)
end Go.Proofs.YtpleiklodomgiaaGreatDoor.W
end
