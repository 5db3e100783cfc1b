import Derived.KernelRfl
import Derived.Test.YtpleiklodomgiaaGreatDoorModelPages18
import Derived.Test.YtpleiklodomgiaaGreatDoorModelPages10
import Derived.Test.YtpleiklodomgiaaGreatDoorModelPages6
import Derived.Test.YtpleiklodomgiaaGreatDoorModelPages7
import Derived.Test.YtpleiklodomgiaaGreatDoorModelPages14
set_option linter.unusedVariables false
set_option linter.unusedSimpArgs false
section
namespace Go.Proofs.YtpleiklodomgiaaGreatDoor.B
end Go.Proofs.YtpleiklodomgiaaGreatDoor.B
namespace Go.Proofs.YtpleiklodomgiaaGreatDoor.CQ
end Go.Proofs.YtpleiklodomgiaaGreatDoor.CQ
namespace Go.Proofs.YtpleiklodomgiaaGreatDoor.N
end Go.Proofs.YtpleiklodomgiaaGreatDoor.N
namespace Go.Proofs.YtpleiklodomgiaaGreatDoor.PModelIs
end Go.Proofs.YtpleiklodomgiaaGreatDoor.PModelIs
namespace Go.Proofs.YtpleiklodomgiaaGreatDoor.Vi
end Go.Proofs.YtpleiklodomgiaaGreatDoor.Vi
namespace Go.Proofs.YtpleiklodomgiaaGreatDoor.C
open Go.RowKit Go.Sort Go.Proofs.YtpleiklodomgiaaGreatDoorW.PrintWords Go.Proofs.YtpleiklodomgiaaGreatDoorW.PrintLast Go.Proofs.YtpleiklodomgiaaGreatDoorW.PrintMore Go.Proofs.YtpleiklodomgiaaGreatDoor.B Go.Proofs.YtpleiklodomgiaaGreatDoor.PModelIs Go.Proofs.YtpleiklodomgiaaGreatDoor.CQ Go.Proofs.YtpleiklodomgiaaGreatDoor.Vi Go.Proofs.YtpleiklodomgiaaGreatDoor.N
def xA : Ent := ⟨5, none, 0, [], ⟨#[98]⟩⟩
end Go.Proofs.YtpleiklodomgiaaGreatDoor.C
end
