/- Texts of this claim (printed ones, too), put together by a program that left out what the claim does not use. -/
import Derived.Shelf.AbstractIn
import Derived.Deep.LoopGhost
import Derived.Lib.SliceRun
import Derived.Test.YtfejjfbhlmjkeaaDoorMatchIs26
section
namespace Go.Proofs.YtfejjfbhlmjkeaaDoor.B
end Go.Proofs.YtfejjfbhlmjkeaaDoor.B
namespace Go.Proofs.YtfejjfbhlmjkeaaDoor.CQ
end Go.Proofs.YtfejjfbhlmjkeaaDoor.CQ
namespace Go.Proofs.YtfejjfbhlmjkeaaDoor.PModelMore
end Go.Proofs.YtfejjfbhlmjkeaaDoor.PModelMore
set_option linter.unusedVariables false
set_option linter.unusedSimpArgs false
namespace Go.Proofs.YtfejjfbhlmjkeaaDoor.C
open Go.RowKit Go.Sort Go.Proofs.YtfejjfbhlmjkeaaDoorW.PrintWords Go.Proofs.YtfejjfbhlmjkeaaDoorW.PrintLast Go.Proofs.YtfejjfbhlmjkeaaDoorW.PrintMore Go.Proofs.YtfejjfbhlmjkeaaDoor.B Go.Proofs.YtfejjfbhlmjkeaaDoor.PModelMore Go.Proofs.YtfejjfbhlmjkeaaDoor.CQ
end Go.Proofs.YtfejjfbhlmjkeaaDoor.C
end
