/- Texts of this claim (printed ones, too), put together by a program that left out what the claim does not use. -/
import Derived.Lib.IndexBytes
import Derived.Test.YtfejjfbhlmjkeaaDoorModelRows37
import Derived.Test.YtfejjfbhlmjkeaaDoorModelRows30
import Derived.Test.YtfejjfbhlmjkeaaDoorModelRows31
import Derived.Test.YtfejjfbhlmjkeaaDoorModelRows33
section
namespace Go.Proofs.YtfejjfbhlmjkeaaDoor.B
end Go.Proofs.YtfejjfbhlmjkeaaDoor.B
namespace Go.Proofs.YtfejjfbhlmjkeaaDoor.C
end Go.Proofs.YtfejjfbhlmjkeaaDoor.C
namespace Go.Proofs.YtfejjfbhlmjkeaaDoor.F
end Go.Proofs.YtfejjfbhlmjkeaaDoor.F
namespace Go.Proofs.YtfejjfbhlmjkeaaDoor.M
end Go.Proofs.YtfejjfbhlmjkeaaDoor.M
namespace Go.Proofs.YtfejjfbhlmjkeaaDoor.PModelMore
end Go.Proofs.YtfejjfbhlmjkeaaDoor.PModelMore
namespace Go.Proofs.YtfejjfbhlmjkeaaDoor.W
end Go.Proofs.YtfejjfbhlmjkeaaDoor.W
set_option linter.unusedVariables false
set_option linter.unusedSimpArgs false
namespace Go.Proofs.YtfejjfbhlmjkeaaDoor.Q
open Go.RowKit Go.Shelf Go.Proofs.YtfejjfbhlmjkeaaDoorW.PrintWords Go.Proofs.YtfejjfbhlmjkeaaDoorW.PrintLast Go.Proofs.YtfejjfbhlmjkeaaDoorW.PrintMore Go.Proofs.YtfejjfbhlmjkeaaDoor.B Go.Proofs.YtfejjfbhlmjkeaaDoor.W Go.Proofs.YtfejjfbhlmjkeaaDoor.M Go.Proofs.YtfejjfbhlmjkeaaDoor.F Go.Proofs.YtfejjfbhlmjkeaaDoor.C Go.Proofs.YtfejjfbhlmjkeaaDoor.PModelMore
end Go.Proofs.YtfejjfbhlmjkeaaDoor.Q
end
