/- Texts of this claim (printed ones, too), put together by a program that left out what the claim does not use. -/
import Derived.Lib.ItoaNum
section
set_option linter.unusedVariables false
namespace Go.Proofs.YtfejjfbhlmjkeaaDoor.Vi
end Go.Proofs.YtfejjfbhlmjkeaaDoor.Vi
end
