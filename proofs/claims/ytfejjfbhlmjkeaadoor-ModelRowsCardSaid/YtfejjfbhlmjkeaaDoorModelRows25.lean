/- Texts of this claim (printed ones, too), put together by a program that left out what the claim does not use. -/
import Derived.Lib.TrimUEq
import Derived.Lib.MapLaws
import Derived.Lib.TrimAscii
import Derived.Test.YtfejjfbhlmjkeaaDoorModelRows17
section
namespace Go.Proofs.YtfejjfbhlmjkeaaDoor.B
end Go.Proofs.YtfejjfbhlmjkeaaDoor.B
namespace Go.Proofs.YtfejjfbhlmjkeaaDoor.WL
end Go.Proofs.YtfejjfbhlmjkeaaDoor.WL
set_option linter.unusedVariables false
set_option linter.unusedSimpArgs false
namespace Go.Proofs.YtfejjfbhlmjkeaaDoor.W
open Go.RowKit Go.Lib Go.Proofs.YtfejjfbhlmjkeaaDoor.B Go.Proofs.YtfejjfbhlmjkeaaDoor.WL
/-- A word, out of where it stands. -/
def word (s : ByteArray) (x : Nat × Nat) : ByteArray := s.extract x.1 x.2
/-- The words of a text. -/
def words (s : ByteArray) : List ByteArray := (spansFrom s 0 none).map (word s)
/-- The words that touch neither end. -/
def inner (s : ByteArray) : List ByteArray := ((spansFrom s 0 none).filter fun x => decide (0 < x.1) && decide (x.2 < s.size)).map (word s)
theorem size_list (s : ByteArray) : s.data.toList.length = s.size := Array.length_toList
end Go.Proofs.YtfejjfbhlmjkeaaDoor.W
end
