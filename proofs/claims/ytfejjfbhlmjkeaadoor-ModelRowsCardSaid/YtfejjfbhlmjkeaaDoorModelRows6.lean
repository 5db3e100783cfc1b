/- Texts of this claim (printed ones, too), put together by a program that left out what the claim does not use. -/
import Derived.Lib.ItoaNum
import Derived.OwnWalk
import Derived.LoopTactic
import Derived.WalkKit
import Derived.KernelRfl
import Derived.OpenShut
import Derived.Test.YtfejjfbhlmjkeaaDoorModelRows3
import Derived.Test.YtfejjfbhlmjkeaaDoorModelRows2
import Derived.Test.YtfejjfbhlmjkeaaDoorModelRows4
import Derived.Test.YtfejjfbhlmjkeaaDoorModelRows5
section
namespace Go.Proofs.YtfejjfbhlmjkeaaDoor.B
end Go.Proofs.YtfejjfbhlmjkeaaDoor.B
namespace Go.Proofs.YtfejjfbhlmjkeaaDoor.Bt
end Go.Proofs.YtfejjfbhlmjkeaaDoor.Bt
namespace Go.Proofs.YtfejjfbhlmjkeaaDoor.Vi
end Go.Proofs.YtfejjfbhlmjkeaaDoor.Vi
set_option linter.unusedVariables false
set_option linter.unusedSimpArgs false
namespace Go.Proofs.YtfejjfbhlmjkeaaDoor.N
open Go.RowKit Go.Proofs.YtfejjfbhlmjkeaaDoorW.PrintWords Go.Proofs.YtfejjfbhlmjkeaaDoorW.PrintLast Go.Proofs.YtfejjfbhlmjkeaaDoor.Bt Go.Proofs.YtfejjfbhlmjkeaaDoor.B Go.Proofs.YtfejjfbhlmjkeaaDoor.Vi
theorem u64_wrap (n : Int) : IntKind.u64.wrap n = n % 18446744073709551616 := by simp [IntKind.wrap, IntKind.bits, IntKind.signed]
end Go.Proofs.YtfejjfbhlmjkeaaDoor.N
end
