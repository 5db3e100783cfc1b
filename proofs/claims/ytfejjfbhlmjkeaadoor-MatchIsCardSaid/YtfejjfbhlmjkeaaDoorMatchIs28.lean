/- Texts of this claim (printed ones, too), put together by a program that left out what the claim does not use. -/
import Derived.Shelf.SlSortCmp.WholeK
import Derived.Shelf.SlicesE.Clone
import Derived.Test.YtfejjfbhlmjkeaaDoorProg
section
namespace Go.Proofs
open Go.Shelf
end Go.Proofs
end
