import Derived.Test.YtfejjfbhlmjkeaaDoorModelMore42
import Derived.Test.YtfejjfbhlmjkeaaDoorModelMore46
import Derived.Test.YtfejjfbhlmjkeaaDoorModelMore45
import Derived.Test.YtfejjfbhlmjkeaaDoorModelMore44
import Derived.Test.YtfejjfbhlmjkeaaDoorModelMore33
set_option linter.unusedVariables false
section
namespace Go.Proofs.YtfejjfbhlmjkeaaDoor.B
end Go.Proofs.YtfejjfbhlmjkeaaDoor.B
namespace Go.Proofs.YtfejjfbhlmjkeaaDoor.C
end Go.Proofs.YtfejjfbhlmjkeaaDoor.C
namespace Go.Proofs.YtfejjfbhlmjkeaaDoor.Y
open Go.RowKit Go.Proofs.YtfejjfbhlmjkeaaDoorW.PrintWords Go.Proofs.YtfejjfbhlmjkeaaDoorW.PrintLast Go.Proofs.YtfejjfbhlmjkeaaDoorW.PrintMore Go.Proofs.YtfejjfbhlmjkeaaDoor.B Go.Proofs.YtfejjfbhlmjkeaaDoor.C
theorem modelMore_d (Al : Option Addr) (cl : Nat) (L : List Int) (A : Option Addr) (cap : Nat) (rs : List Rw) (x : Ent) (W : World) (hC : Go.Proofs.YtfejjfbhlmjkeaaDoor.W.Con W) (hS : Go.Proofs.YtfejjfbhlmjkeaaDoor.M.Spl W) (hL : Kd.C (Kd.int .i64) W Al L.length L) (hR : Rws W A cap rs) (hx : x.Raw W) (hD : Go.Proofs.YtfejjfbhlmjkeaaDoor.W.Dec W) :
  Calls Tryd.prog 11 #[.slice Al L.length cl, .slice A rs.length cap, x.val] W fun e w' => e = .returned (.bool true) ∧ Below W.heap.size W w' := modelMore_all L Al cl A cap rs x W hC hS hD hL hR hx
end Go.Proofs.YtfejjfbhlmjkeaaDoor.Y
end
