import Derived.ChangeSlices
import Derived.Shelf.AbstractIn
import Derived.Test.YtpleiklodomgiaaGreatDoorModelPages37
import Derived.Test.YtpleiklodomgiaaGreatDoorModelPages23
import Derived.Test.YtpleiklodomgiaaGreatDoorModelPages45
set_option linter.unusedVariables false
section
namespace Go.Proofs.YtpleiklodomgiaaGreatDoor.B
end Go.Proofs.YtpleiklodomgiaaGreatDoor.B
namespace Go.Proofs.YtpleiklodomgiaaGreatDoor.M
end Go.Proofs.YtpleiklodomgiaaGreatDoor.M
namespace Go.Proofs.YtpleiklodomgiaaGreatDoor.PModelIs
end Go.Proofs.YtpleiklodomgiaaGreatDoor.PModelIs
namespace Go.Proofs.YtpleiklodomgiaaGreatDoor.W
end Go.Proofs.YtpleiklodomgiaaGreatDoor.W
namespace Go.Proofs.YtpleiklodomgiaaGreatDoor.F
open Go.RowKit Go.ChangeShapes Go.WideShapes Go.Proofs.YtpleiklodomgiaaGreatDoorW.PrintWords Go.Proofs.YtpleiklodomgiaaGreatDoorW.PrintLast Go.Proofs.YtpleiklodomgiaaGreatDoorW.PrintMore Go.Proofs.YtpleiklodomgiaaGreatDoor.B Go.Proofs.YtpleiklodomgiaaGreatDoor.W Go.Proofs.YtpleiklodomgiaaGreatDoor.M Go.Proofs.YtpleiklodomgiaaGreatDoor.PModelIs
theorem open_nums {H : Type} {enc : TypeId × Value → H} {w : World} {base : Nat} {spare : Nat → Bool} {held : Bool} {fuel : Nat} {cs : List Value} {x : DataW H × List MemPlace}
  (h : DataW.trod enc Tryz.prog w base spare held fuel 22 cs = some x) : ∃ A cap xs, cs = [.slice A (xs : List Int).length cap] ∧ Kd.C (Kd.int .i64) w A xs.length xs := by
 rcases open_ints Tryz.underlying22 Tryz.underlying3 (by kernel_rfl) h with ⟨rfl, _⟩ | ⟨a, len, cap, zs, rfl, _, hl, hm, hz, _, hc, _⟩
 ·exact ⟨none, 0, [], rfl, Kd.C_nil _ _⟩
 ·have hlz : len ≤ zs.length := by
   rw [hz]
   split <;> omega
  have he : (zs.take len).length = len := by rw [List.length_take]; omega
  refine ⟨some a, cap, zs.take len, by rw [he], ?_⟩
  refine ⟨rfl, ?_, fun _ => ⟨a, rfl, fun j p hj => ⟨[.int .i64 p], rfl, rfl, fun i u hu => ?_⟩⟩⟩
  ·rw [he]
   exact Nat.le_trans hl (Nat.le_trans hm (by decide))
  ·have hj2 : j < len := by
    have := (List.getElem?_eq_some_iff.1 hj).1
    omega
   rw [List.getElem?_take_of_lt hj2] at hj
   have h1 := hc j (by omega)
   rw [List.getD_eq_getElem?_getD, hj] at h1
   match i, hu with
   | 0, hu => cases hu; show w.cell? (a.add (j * 1 + 0)) = _; rw [Nat.mul_one]; exact h1
end Go.Proofs.YtpleiklodomgiaaGreatDoor.F
end
