import Derived.Test.YtpleiklodomgiaaGreatDoorModelPages42
import Derived.Test.YtpleiklodomgiaaGreatDoorModelPages46
import Derived.Test.YtpleiklodomgiaaGreatDoorModelPages45
import Derived.Test.YtpleiklodomgiaaGreatDoorModelPages44
import Derived.Test.YtpleiklodomgiaaGreatDoorModelPages33
set_option linter.unusedVariables false
section
namespace Go.Proofs.YtpleiklodomgiaaGreatDoor.B
end Go.Proofs.YtpleiklodomgiaaGreatDoor.B
namespace Go.Proofs.YtpleiklodomgiaaGreatDoor.C
end Go.Proofs.YtpleiklodomgiaaGreatDoor.C
namespace Go.Proofs.YtpleiklodomgiaaGreatDoor.Y
open Go.RowKit Go.Proofs.YtpleiklodomgiaaGreatDoorW.PrintWords Go.Proofs.YtpleiklodomgiaaGreatDoorW.PrintLast Go.Proofs.YtpleiklodomgiaaGreatDoorW.PrintMore Go.Proofs.YtpleiklodomgiaaGreatDoor.B Go.Proofs.YtpleiklodomgiaaGreatDoor.C
theorem modelPages_d (Al : Option Addr) (cl : Nat) (L : List Int) (A : Option Addr) (cap : Nat) (rs : List Rw) (n : Int) (W : World) (hC : Go.Proofs.YtpleiklodomgiaaGreatDoor.W.Con W) (hS : Go.Proofs.YtpleiklodomgiaaGreatDoor.M.Spl W) (hL : Kd.C (Kd.int .i64) W Al L.length L) (hR : Rws W A cap rs) (hn : (Lit.int .i64 n).wf = true) (hD : Go.Proofs.YtpleiklodomgiaaGreatDoor.W.Dec W) :
  Calls Tryz.prog 4 #[.slice Al L.length cl, .slice A rs.length cap, .int .i64 n] W fun e w' => e = .returned (.bool true) ∧ Below W.heap.size W w' := modelPages_all L Al cl A cap rs n W hC hS hD hL hR (int_of_i64 hn)
end Go.Proofs.YtpleiklodomgiaaGreatDoor.Y
end
