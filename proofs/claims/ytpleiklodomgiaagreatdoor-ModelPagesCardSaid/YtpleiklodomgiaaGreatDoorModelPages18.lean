import Derived.Shelf.Vars
import Derived.Laws.RangeString
import Derived.KernelRfl
import Derived.Test.YtpleiklodomgiaaGreatDoorModelPages10
import Derived.Test.YtpleiklodomgiaaGreatDoorModelPages17
import Derived.Test.YtpleiklodomgiaaGreatDoorModelPages7
import Derived.Test.YtpleiklodomgiaaGreatDoorModelPages4
set_option linter.unusedVariables false
set_option linter.unusedSimpArgs false
section
namespace Go.Proofs.YtpleiklodomgiaaGreatDoor.B
end Go.Proofs.YtpleiklodomgiaaGreatDoor.B
namespace Go.Proofs.YtpleiklodomgiaaGreatDoor.CQ
end Go.Proofs.YtpleiklodomgiaaGreatDoor.CQ
namespace Go.Proofs.YtpleiklodomgiaaGreatDoor.PModelIs
end Go.Proofs.YtpleiklodomgiaaGreatDoor.PModelIs
namespace Go.Proofs.YtpleiklodomgiaaGreatDoor.Reg
end Go.Proofs.YtpleiklodomgiaaGreatDoor.Reg
namespace Go.Proofs.YtpleiklodomgiaaGreatDoor.C
open Go.RowKit Go.Proofs.YtpleiklodomgiaaGreatDoorW.PrintWords Go.Proofs.YtpleiklodomgiaaGreatDoorW.PrintLast Go.Proofs.YtpleiklodomgiaaGreatDoorW.PrintMore Go.Proofs.YtpleiklodomgiaaGreatDoor.B Go.Proofs.YtpleiklodomgiaaGreatDoor.Reg Go.Proofs.YtpleiklodomgiaaGreatDoor.PModelIs Go.Proofs.YtpleiklodomgiaaGreatDoor.CQ
theorem heap_below {w w' : World} {j : Nat} {o : Obj} (h : Below w.heap.size w w') (k : w.heap[j]? = some o) : w'.heap[j]? = some o := (h.block j (Array.getElem?_eq_some_iff.1 k).1).trans k
theorem cell_below {w w' : World} {p : Addr} {v : Value} (h : Below w.heap.size w w') (hc : w.cell? p = some v) : w'.cell? p = some v := by
 refine (h.cell ?_).trans hc
 unfold World.cell? at hc
 rcases Nat.lt_or_ge p.block w.heap.size with hl | hl
 ·exact hl
 ·rw [Array.getElem?_eq_none hl] at hc; cases hc
end Go.Proofs.YtpleiklodomgiaaGreatDoor.C
end
section
namespace Go.Proofs.YtpleiklodomgiaaGreatDoor.C
open Go.RowKit Go.Shelf Go.Lib Go.Proofs.YtpleiklodomgiaaGreatDoorW.PrintWords Go.Proofs.YtpleiklodomgiaaGreatDoorW.PrintLast Go.Proofs.YtpleiklodomgiaaGreatDoorW.PrintMore Go.Proofs.YtpleiklodomgiaaGreatDoor.B Go.Proofs.YtpleiklodomgiaaGreatDoor.PModelIs Go.Proofs.YtpleiklodomgiaaGreatDoor.CQ
def Con (w : World) : Prop := ∀ (s sub : ByteArray) (w' : World), s.size < 4294967281 → Below w.heap.size w w' → Calls Tryz.prog 51 #[.string s, .string sub] w' fun e w2 => e = .returned (.bool (Lib.contains s.data.toList sub.data.toList)) ∧ w2 = w'
theorem Con.below {w w1 : World} (h : Con w) (hb : Below w.heap.size w w1) : Con w1 := fun s sub w' hs hb' => h s sub w' hs (below_step hb hb')
theorem con_of {W : World} (h : W.ShapedOpen Tryz.prog) : Con W := by
 obtain ⟨m, hm⟩ := cell_of_shapedOpen_int (P := Tryz.prog) (g := 0) (t := 3) (zero := #[.int .i64 0]) h (of_decide_eq_true (by kernel_rfl)) (by kernel_rfl) rfl (by kernel_rfl) (by kernel_rfl) Tryz.underlying3
 intro s sub w' hs hb
 exact Tryz.strings_Contains s sub m w' hs (cell_below hb hm)
end Go.Proofs.YtpleiklodomgiaaGreatDoor.C
end
