import Derived.Laws.StructEq
import Derived.Test.YtpleiklodomgiaaGreatDoorModelPages1
section
namespace Go.Proofs.YtpleiklodomgiaaGreatDoorW.PrintWords
open Go.RowKit
section
variable {P : Program} {d : Nat} {xs ys : Array Value} {f : Field} {fs : List Field} {a b : Value} {r s : Bool} {w : World}
end
end Go.Proofs.YtpleiklodomgiaaGreatDoorW.PrintWords
end
