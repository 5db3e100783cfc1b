import Derived.Test.YtpleiklodomgiaaGreatDoorProg
import Derived.OwnWalk
import Derived.LoopTactic
import Derived.WalkKit
import Derived.KernelRfl
import Derived.OpenShut
import Derived.Test.YtpleiklodomgiaaGreatDoorModelPages3
import Derived.Test.YtpleiklodomgiaaGreatDoorModelPages5
set_option linter.unusedVariables false
set_option linter.unusedSimpArgs false
section
namespace Go.Proofs.YtpleiklodomgiaaGreatDoor.B
end Go.Proofs.YtpleiklodomgiaaGreatDoor.B
namespace Go.Proofs.YtpleiklodomgiaaGreatDoor.W
open Go.RowKit Go.Proofs.YtpleiklodomgiaaGreatDoorW.PrintWords Go.Proofs.YtpleiklodomgiaaGreatDoorW.PrintLast Go.Proofs.YtpleiklodomgiaaGreatDoor.B
def letter (c : Int) : Bool := decide ((97 ≤ c ∧ c ≤ 122) ∨ (65 ≤ c ∧ c ≤ 90) ∨ (48 ≤ c ∧ c ≤ 57) ∨ c = 95 ∨ (128 ≤ c ∧ c ≠ 65533))
theorem ret_b {a b : Bool} (h : a = b) : Ending.returned (.bool a) = .returned (.bool b) := by rw [h]
set_option maxHeartbeats 1000000 in
theorem letter_any (c : Int) (w : World) : Calls Tryz.prog 96 #[.int .i32 c] w fun e w' => e = .returned (.bool (letter c)) ∧ w = w' := by
 go_enter Tryz.func96, Tryz.ntmps96
 go_wp2
 all_goals go_ret
 all_goals refine ⟨ret_b ?_, rfl⟩
 all_goals (rw [Bool.eq_iff_iff]; simp [letter] at *; try omega)
set_option maxHeartbeats 1000000 in
theorem refLetter_any (c : Int) (w : World) : Calls Tryz.prog 94 #[.int .i32 c] w fun e w' => e = .returned (.bool (letter c)) ∧ w = w' := by
 go_enter Tryz.func94, Tryz.ntmps94
 go_wp2
 all_goals go_ret
 all_goals refine ⟨ret_b ?_, rfl⟩
 all_goals (rw [Bool.eq_iff_iff]; simp [letter] at *; try omega)
end Go.Proofs.YtpleiklodomgiaaGreatDoor.W
end
