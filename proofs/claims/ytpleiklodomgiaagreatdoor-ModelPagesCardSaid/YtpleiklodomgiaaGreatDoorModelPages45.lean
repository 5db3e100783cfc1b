import Derived.Test.YtpleiklodomgiaaGreatDoorModelPages37
import Derived.Test.YtpleiklodomgiaaGreatDoorModelPages44
import Derived.Test.YtpleiklodomgiaaGreatDoorModelPages4
set_option linter.unusedVariables false
section
namespace Go.Proofs.YtpleiklodomgiaaGreatDoor.W
end Go.Proofs.YtpleiklodomgiaaGreatDoor.W
namespace Go.Proofs.YtpleiklodomgiaaGreatDoor.M
open Go.RowKit Go.Shelf Go.Lib Go.Proofs Go.Proofs.YtpleiklodomgiaaGreatDoorW.PrintWords Go.Proofs.YtpleiklodomgiaaGreatDoor.W
theorem spl_of {W : World} (h : W.ShapedOpen Tryz.prog) : Spl W := by
 obtain ⟨m, hm⟩ := cell_of_shapedOpen_int (P := Tryz.prog) (g := 0) (t := 3) (zero := #[.int .i64 0]) h (of_decide_eq_true (by kernel_rfl)) (by kernel_rfl) rfl (by kernel_rfl) (by kernel_rfl) Tryz.underlying3
 intro s w' hs hb
 exact Tryz.strings_Split s ⟨#[32]⟩ m w' hs (pw_cell_below hb hm) (by decide)
end Go.Proofs.YtpleiklodomgiaaGreatDoor.M
end
