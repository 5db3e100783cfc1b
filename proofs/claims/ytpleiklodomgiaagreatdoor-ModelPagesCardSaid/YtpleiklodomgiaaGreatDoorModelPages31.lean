import Derived.Lib.IndexMore
import Derived.Test.YtpleiklodomgiaaGreatDoorModelPages30
set_option linter.unusedVariables false
set_option linter.unusedSimpArgs false
section
namespace Go.Proofs.YtpleiklodomgiaaGreatDoor.B
end Go.Proofs.YtpleiklodomgiaaGreatDoor.B
namespace Go.Proofs.YtpleiklodomgiaaGreatDoor.W
open Go.RowKit Go.Proofs.YtpleiklodomgiaaGreatDoorW.PrintWords Go.Proofs.YtpleiklodomgiaaGreatDoorW.PrintLast Go.Proofs.YtpleiklodomgiaaGreatDoor.B
def Con (w : World) : Prop := ∀ (s sub : ByteArray) (w' : World), s.size < 4294967281 → Below w.heap.size w w' → Calls Tryz.prog 51 #[.string s, .string sub] w' fun e w2 => e = .returned (.bool (Lib.contains s.data.toList sub.data.toList)) ∧ w2 = w'
theorem Con.below {w w1 : World} (h : Con w) (hb : Below w.heap.size w w1) : Con w1 := fun s sub w' hs hb' => h s sub w' hs (below_step hb hb')
end Go.Proofs.YtpleiklodomgiaaGreatDoor.W
end
