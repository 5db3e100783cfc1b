import Derived.Test.YtpleiklodomgiaaGreatDoorModelIs42
import Derived.Test.YtpleiklodomgiaaGreatDoorModelIs46
import Derived.Test.YtpleiklodomgiaaGreatDoorModelIs45
import Derived.Test.YtpleiklodomgiaaGreatDoorModelIs44
import Derived.Test.YtpleiklodomgiaaGreatDoorModelIs33
set_option linter.unusedVariables false
section
namespace Go.Proofs.YtpleiklodomgiaaGreatDoor.B
end Go.Proofs.YtpleiklodomgiaaGreatDoor.B
namespace Go.Proofs.YtpleiklodomgiaaGreatDoor.C
end Go.Proofs.YtpleiklodomgiaaGreatDoor.C
namespace Go.Proofs.YtpleiklodomgiaaGreatDoor.Y
open Go.RowKit Go.ChangeShapes Go.WideShapes Go.Deep Go.Proofs.YtpleiklodomgiaaGreatDoorW.PrintWords Go.Proofs.YtpleiklodomgiaaGreatDoorW.PrintLast Go.Proofs.YtpleiklodomgiaaGreatDoorW.PrintMore Go.Proofs.YtpleiklodomgiaaGreatDoor.B Go.Proofs.YtpleiklodomgiaaGreatDoor.C
structure Mk where
 has : Bool
 x : Ent
def Mk.cells (m : Mk) : List Value := .bool m.has :: m.x.cells
theorem four_of {cs : List Value} (h : cs.length = 4) : ∃ a b c d, cs = [a, b, c, d] := by
 match cs, h with
 | [a, b, c, d], _ => exact ⟨a, b, c, d, rfl⟩
section
variable {H : Type} {enc : TypeId × Value → H} {w : World} {base : Nat} {spare : Nat → Bool} {held : Bool}
theorem open_mark {fuel : Nat} {cs : List Value} {x : DataW H × List MemPlace} (h : DataW.trod enc Tryz.prog w base spare held fuel 28 cs = some x) :
  ∃ y : Mk, cs = y.cells ∧ y.x.Raw w := by
 obtain ⟨ys, n', _, _, hcl, hyl, hfs⟩ := DataW.trod_struct Tryz.underlying28 h
 have hc4 : cs.length = 4 := hcl.trans (by kernel_rfl)
 obtain ⟨a, b, c, d, rfl⟩ := four_of hc4
 have y2 : ys.length = 2 := hyl.trans (by rfl)
 have c0 : Tryz.prog.cellsOf 4 = 1 := by kernel_rfl
 have c1 : Tryz.prog.cellsOf 26 = 3 := by kernel_rfl
 have h0 : DataW.trod enc Tryz.prog w base spare held n' 4 (List.take (Tryz.prog.cellsOf 4) [a, b, c, d]) = some ys[0] := (hfs 0 _ rfl).trans (List.getElem?_eq_getElem (show 0 < ys.length by omega))
 have h1 : DataW.trod enc Tryz.prog w base spare held n' 26 (List.take (Tryz.prog.cellsOf 26) [b, c, d]) = some ys[1] := (hfs 1 _ rfl).trans (List.getElem?_eq_getElem (show 1 < ys.length by omega))
 rw [c0] at h0
 rw [c1] at h1
 obtain ⟨z0, e0, -⟩ := Go.DataW.trod_bool Tryz.underlying4 h0
 obtain ⟨y, e1, hr⟩ := open_entry h1
 refine ⟨⟨z0, y⟩, ?_, hr⟩
 simp only [List.take_succ_cons, List.take_zero, List.cons.injEq, and_true] at e0
 have e2 : [b, c, d] = y.cells := e1
 unfold Mk.cells
 rw [e0, e2]
end
theorem modelIs_d (Al : Option Addr) (cl : Nat) (L : List Int) (A : Option Addr) (cap : Nat) (rs : List Rw) (m : Mk) (n : Int) (W : World) (hC : Go.Proofs.YtpleiklodomgiaaGreatDoor.W.Con W) (hS : Go.Proofs.YtpleiklodomgiaaGreatDoor.M.Spl W) (hL : Kd.C (Kd.int .i64) W Al L.length L) (hR : Rws W A cap rs) (hx : m.x.Raw W) (hn : (Lit.int .i64 n).wf = true) (hD : Go.Proofs.YtpleiklodomgiaaGreatDoor.W.Dec W) :
  Calls Tryz.prog 3 #[.slice Al L.length cl, .slice A rs.length cap, .agg m.cells.toArray, .int .i64 n] W fun e w' => e = .returned (.bool true) ∧ Below W.heap.size W w' := by
 obtain ⟨has, x⟩ := m
 exact modelIs_all L Al cl A cap rs has x n W hC hS hD hL hR hx (int_of_i64 hn)
end Go.Proofs.YtpleiklodomgiaaGreatDoor.Y
end
