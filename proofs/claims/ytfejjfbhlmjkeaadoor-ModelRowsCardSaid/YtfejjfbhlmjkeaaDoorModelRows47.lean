/- Texts of this claim (printed ones, too), put together by a program that left out what the claim does not use. -/
import Derived.Test.YtfejjfbhlmjkeaaDoorModelRows42
import Derived.Test.YtfejjfbhlmjkeaaDoorModelRows46
import Derived.Test.YtfejjfbhlmjkeaaDoorModelRows45
import Derived.Test.YtfejjfbhlmjkeaaDoorModelRows44
import Derived.Test.YtfejjfbhlmjkeaaDoorModelRows33
section
namespace Go.Proofs.YtfejjfbhlmjkeaaDoor.B
end Go.Proofs.YtfejjfbhlmjkeaaDoor.B
namespace Go.Proofs.YtfejjfbhlmjkeaaDoor.C
end Go.Proofs.YtfejjfbhlmjkeaaDoor.C
set_option linter.unusedVariables false
namespace Go.Proofs.YtfejjfbhlmjkeaaDoor.Y
open Go.RowKit Go.Proofs.YtfejjfbhlmjkeaaDoorW.PrintWords Go.Proofs.YtfejjfbhlmjkeaaDoorW.PrintLast Go.Proofs.YtfejjfbhlmjkeaaDoorW.PrintMore Go.Proofs.YtfejjfbhlmjkeaaDoor.B Go.Proofs.YtfejjfbhlmjkeaaDoor.C
theorem modelRows_d (Al : Option Addr) (cl : Nat) (L : List Int) (A : Option Addr) (cap : Nat) (rs : List Rw) (W : World) (hC : Go.Proofs.YtfejjfbhlmjkeaaDoor.W.Con W) (hS : Go.Proofs.YtfejjfbhlmjkeaaDoor.M.Spl W) (hL : Kd.C (Kd.int .i64) W Al L.length L) (hR : Rws W A cap rs) (hD : Go.Proofs.YtfejjfbhlmjkeaaDoor.W.Dec W) :
    Calls Tryd.prog 10 #[.slice Al L.length cl, .slice A rs.length cap] W fun e w' => e = .returned (.bool true) ∧ Below W.heap.size W w' := modelRows_all L Al cl A cap rs W hC hS hL hR
end Go.Proofs.YtfejjfbhlmjkeaaDoor.Y
end
