import Derived.Lib.ItoaNum
import Derived.OwnWalk
import Derived.LoopTactic
import Derived.WalkKit
import Derived.KernelRfl
import Derived.OpenShut
import Derived.Test.YtfejjfbhlmjkeaaDoorModelMore3
import Derived.Test.YtfejjfbhlmjkeaaDoorModelMore2
import Derived.Test.YtfejjfbhlmjkeaaDoorModelMore4
import Derived.Test.YtfejjfbhlmjkeaaDoorModelMore5
set_option linter.unusedVariables false
set_option linter.unusedSimpArgs false
section
namespace Go.Proofs.YtfejjfbhlmjkeaaDoor.B
end Go.Proofs.YtfejjfbhlmjkeaaDoor.B
namespace Go.Proofs.YtfejjfbhlmjkeaaDoor.Bt
end Go.Proofs.YtfejjfbhlmjkeaaDoor.Bt
namespace Go.Proofs.YtfejjfbhlmjkeaaDoor.Vi
end Go.Proofs.YtfejjfbhlmjkeaaDoor.Vi
namespace Go.Proofs.YtfejjfbhlmjkeaaDoor.N
open Go.RowKit Go.Proofs.YtfejjfbhlmjkeaaDoorW.PrintWords Go.Proofs.YtfejjfbhlmjkeaaDoorW.PrintLast Go.Proofs.YtfejjfbhlmjkeaaDoor.Bt Go.Proofs.YtfejjfbhlmjkeaaDoor.B Go.Proofs.YtfejjfbhlmjkeaaDoor.Vi
theorem u64_wrap (n : Int) : IntKind.u64.wrap n = n % 18446744073709551616 := by simp [IntKind.wrap, IntKind.bits, IntKind.signed]
end Go.Proofs.YtfejjfbhlmjkeaaDoor.N
end
