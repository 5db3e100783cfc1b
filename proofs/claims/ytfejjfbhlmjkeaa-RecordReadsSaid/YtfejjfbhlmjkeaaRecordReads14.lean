/- Texts of this claim (printed ones, too), put together by a program that left out what the claim does not use. -/
import Derived.Deep.Slices
import Derived.Deep.Fields
import Derived.ChangeSame
section
set_option linter.unusedVariables false
namespace Go.Proofs.Ytfejjfbhlmjkeaa.Op
open Go.ChangeShapes Go.WideShapes Go.Deep
section
variable {H : Type} {enc : TypeId × Value → H} {P : Program} {w : World} {base : Nat} {spare : Nat → Bool} {held : Bool}
end
end Go.Proofs.Ytfejjfbhlmjkeaa.Op
end
