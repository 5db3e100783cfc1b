/- Texts of this claim (printed ones, too), put together by a program that left out what the claim does not use. -/
import Derived.Test.YtfejjfbhlmjkeaaDoorMatchIs38
import Derived.Test.YtfejjfbhlmjkeaaDoorMatchIs42
import Derived.Test.YtfejjfbhlmjkeaaDoorMatchIs41
import Derived.Test.YtfejjfbhlmjkeaaDoorMatchIs40
import Derived.Test.YtfejjfbhlmjkeaaDoorMatchIs36
section
namespace Go.Proofs.YtfejjfbhlmjkeaaDoor.B
end Go.Proofs.YtfejjfbhlmjkeaaDoor.B
namespace Go.Proofs.YtfejjfbhlmjkeaaDoor.C
end Go.Proofs.YtfejjfbhlmjkeaaDoor.C
set_option linter.unusedVariables false
namespace Go.Proofs.YtfejjfbhlmjkeaaDoor.Q
open Go.RowKit Go.Proofs.YtfejjfbhlmjkeaaDoorW.PrintWords Go.Proofs.YtfejjfbhlmjkeaaDoorW.PrintLast Go.Proofs.YtfejjfbhlmjkeaaDoorW.PrintMore Go.Proofs.YtfejjfbhlmjkeaaDoor.B Go.Proofs.YtfejjfbhlmjkeaaDoor.C
theorem matchIs_d (A : Option Addr) (c : Nat) (L : List Int) (x : Ent) (W : World) (hC : Go.Proofs.YtfejjfbhlmjkeaaDoor.W.Con W) (hS : Go.Proofs.YtfejjfbhlmjkeaaDoor.M.Spl W) (hL : Kd.C (Kd.int .i64) W A L.length L) (hx : x.Raw W) (hD : Go.Proofs.YtfejjfbhlmjkeaaDoor.W.Dec W) :
    Calls Tryd.prog 8 #[.slice A L.length c, x.val] W fun e w' => e = .returned (.bool true) ∧ Below W.heap.size W w' := matchIs_all L A c x W hC hS hD hL hx
end Go.Proofs.YtfejjfbhlmjkeaaDoor.Q
end
