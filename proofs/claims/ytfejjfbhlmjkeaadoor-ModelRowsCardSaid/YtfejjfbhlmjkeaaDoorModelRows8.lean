/- Texts of this claim (printed ones, too), put together by a program that left out what the claim does not use. -/
import Derived.Laws.StructEq
import Derived.Test.YtfejjfbhlmjkeaaDoorModelRows1
section
namespace Go.Proofs.YtfejjfbhlmjkeaaDoorW.PrintWords
open Go.RowKit
section
variable {P : Program} {d : Nat} {xs ys : Array Value} {f : Field} {fs : List Field} {a b : Value} {r s : Bool} {w : World}
end
end Go.Proofs.YtfejjfbhlmjkeaaDoorW.PrintWords
end
