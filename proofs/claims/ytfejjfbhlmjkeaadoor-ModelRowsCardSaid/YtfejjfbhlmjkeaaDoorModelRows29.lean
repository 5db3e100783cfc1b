/- Texts of this claim (printed ones, too), put together by a program that left out what the claim does not use. -/
import Derived.Lib.RuneCountTail
import Derived.Test.YtfejjfbhlmjkeaaDoorModelRows27
section
namespace Go.Proofs.YtfejjfbhlmjkeaaDoor.B
end Go.Proofs.YtfejjfbhlmjkeaaDoor.B
namespace Go.Proofs.YtfejjfbhlmjkeaaDoor.WL
end Go.Proofs.YtfejjfbhlmjkeaaDoor.WL
set_option linter.unusedVariables false
set_option linter.unusedSimpArgs false
namespace Go.Proofs.YtfejjfbhlmjkeaaDoor.W
open Go.RowKit Go.Lib Go.Proofs.YtfejjfbhlmjkeaaDoor.B Go.Proofs.YtfejjfbhlmjkeaaDoor.WL
end Go.Proofs.YtfejjfbhlmjkeaaDoor.W
end
