/- Texts of this claim (printed ones, too), put together by a program that left out what the claim does not use. -/
import Derived.Laws.BitsLemmas
import Derived.Test.YtfejjfbhlmjkeaaDoorMatchIs1
section
set_option linter.unusedVariables false
namespace Go.Proofs.YtfejjfbhlmjkeaaDoor.Bt
open Go.RowKit
end Go.Proofs.YtfejjfbhlmjkeaaDoor.Bt
end
