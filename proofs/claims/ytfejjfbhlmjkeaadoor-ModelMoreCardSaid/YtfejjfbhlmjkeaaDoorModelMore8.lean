import Derived.Laws.StructEq
import Derived.Test.YtfejjfbhlmjkeaaDoorModelMore1
section
namespace Go.Proofs.YtfejjfbhlmjkeaaDoorW.PrintWords
open Go.RowKit
section
variable {P : Program} {d : Nat} {xs ys : Array Value} {f : Field} {fs : List Field} {a b : Value} {r s : Bool} {w : World}
end
end Go.Proofs.YtfejjfbhlmjkeaaDoorW.PrintWords
end
