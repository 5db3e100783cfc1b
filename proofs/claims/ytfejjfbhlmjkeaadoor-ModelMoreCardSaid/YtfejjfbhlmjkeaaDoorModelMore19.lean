import Derived.KernelRfl
import Derived.Test.YtfejjfbhlmjkeaaDoorModelMore18
import Derived.Test.YtfejjfbhlmjkeaaDoorModelMore10
import Derived.Test.YtfejjfbhlmjkeaaDoorModelMore6
import Derived.Test.YtfejjfbhlmjkeaaDoorModelMore7
import Derived.Test.YtfejjfbhlmjkeaaDoorModelMore14
set_option linter.unusedVariables false
set_option linter.unusedSimpArgs false
section
namespace Go.Proofs.YtfejjfbhlmjkeaaDoor.B
end Go.Proofs.YtfejjfbhlmjkeaaDoor.B
namespace Go.Proofs.YtfejjfbhlmjkeaaDoor.CQ
end Go.Proofs.YtfejjfbhlmjkeaaDoor.CQ
namespace Go.Proofs.YtfejjfbhlmjkeaaDoor.N
end Go.Proofs.YtfejjfbhlmjkeaaDoor.N
namespace Go.Proofs.YtfejjfbhlmjkeaaDoor.PModelMore
end Go.Proofs.YtfejjfbhlmjkeaaDoor.PModelMore
namespace Go.Proofs.YtfejjfbhlmjkeaaDoor.Vi
end Go.Proofs.YtfejjfbhlmjkeaaDoor.Vi
namespace Go.Proofs.YtfejjfbhlmjkeaaDoor.C
open Go.RowKit Go.Sort Go.Proofs.YtfejjfbhlmjkeaaDoorW.PrintWords Go.Proofs.YtfejjfbhlmjkeaaDoorW.PrintLast Go.Proofs.YtfejjfbhlmjkeaaDoorW.PrintMore Go.Proofs.YtfejjfbhlmjkeaaDoor.B Go.Proofs.YtfejjfbhlmjkeaaDoor.PModelMore Go.Proofs.YtfejjfbhlmjkeaaDoor.CQ Go.Proofs.YtfejjfbhlmjkeaaDoor.Vi Go.Proofs.YtfejjfbhlmjkeaaDoor.N
def xA : Ent := ⟨5, none, 0, [], ⟨#[98]⟩⟩
end Go.Proofs.YtfejjfbhlmjkeaaDoor.C
end
