/- Texts of this claim (printed ones, too), put together by a program that left out what the claim does not use. -/
import Derived.OwnWalk
import Derived.LoopTactic
import Derived.WalkKit
import Derived.KernelRfl
import Derived.OpenShut
import Derived.Test.YtfejjfbhlmjkeaaDoorMatchIs6
import Derived.Test.YtfejjfbhlmjkeaaDoorMatchIs21
import Derived.Test.YtfejjfbhlmjkeaaDoorMatchIs22
import Derived.Test.YtfejjfbhlmjkeaaDoorMatchIs23
import Derived.Test.YtfejjfbhlmjkeaaDoorMatchIs2
section
namespace Go.Proofs.YtfejjfbhlmjkeaaDoor.B
end Go.Proofs.YtfejjfbhlmjkeaaDoor.B
namespace Go.Proofs.YtfejjfbhlmjkeaaDoor.Bt
end Go.Proofs.YtfejjfbhlmjkeaaDoor.Bt
namespace Go.Proofs.YtfejjfbhlmjkeaaDoor.Vi
end Go.Proofs.YtfejjfbhlmjkeaaDoor.Vi
set_option linter.unusedVariables false
set_option linter.unusedSimpArgs false
namespace Go.Proofs.YtfejjfbhlmjkeaaDoor.N
open Go.RowKit Go.Proofs.YtfejjfbhlmjkeaaDoorW.PrintWords Go.Proofs.YtfejjfbhlmjkeaaDoorW.PrintLast Go.Proofs.YtfejjfbhlmjkeaaDoor.Bt Go.Proofs.YtfejjfbhlmjkeaaDoor.B Go.Proofs.YtfejjfbhlmjkeaaDoor.Vi
end Go.Proofs.YtfejjfbhlmjkeaaDoor.N
end
