import Derived.Shelf.Vars
import Derived.Laws.RangeString
import Derived.KernelRfl
import Derived.Test.YtfejjfbhlmjkeaaDoorModelMore10
import Derived.Test.YtfejjfbhlmjkeaaDoorModelMore17
import Derived.Test.YtfejjfbhlmjkeaaDoorModelMore7
import Derived.Test.YtfejjfbhlmjkeaaDoorModelMore4
set_option linter.unusedVariables false
set_option linter.unusedSimpArgs false
section
namespace Go.Proofs.YtfejjfbhlmjkeaaDoor.B
end Go.Proofs.YtfejjfbhlmjkeaaDoor.B
namespace Go.Proofs.YtfejjfbhlmjkeaaDoor.CQ
end Go.Proofs.YtfejjfbhlmjkeaaDoor.CQ
namespace Go.Proofs.YtfejjfbhlmjkeaaDoor.PModelMore
end Go.Proofs.YtfejjfbhlmjkeaaDoor.PModelMore
namespace Go.Proofs.YtfejjfbhlmjkeaaDoor.Reg
end Go.Proofs.YtfejjfbhlmjkeaaDoor.Reg
namespace Go.Proofs.YtfejjfbhlmjkeaaDoor.C
open Go.RowKit Go.Proofs.YtfejjfbhlmjkeaaDoorW.PrintWords Go.Proofs.YtfejjfbhlmjkeaaDoorW.PrintLast Go.Proofs.YtfejjfbhlmjkeaaDoorW.PrintMore Go.Proofs.YtfejjfbhlmjkeaaDoor.B Go.Proofs.YtfejjfbhlmjkeaaDoor.Reg Go.Proofs.YtfejjfbhlmjkeaaDoor.PModelMore Go.Proofs.YtfejjfbhlmjkeaaDoor.CQ
theorem heap_below {w w' : World} {j : Nat} {o : Obj} (h : Below w.heap.size w w') (k : w.heap[j]? = some o) : w'.heap[j]? = some o := (h.block j (Array.getElem?_eq_some_iff.1 k).1).trans k
theorem cell_below {w w' : World} {p : Addr} {v : Value} (h : Below w.heap.size w w') (hc : w.cell? p = some v) : w'.cell? p = some v := by
 refine (h.cell ?_).trans hc
 unfold World.cell? at hc
 rcases Nat.lt_or_ge p.block w.heap.size with hl | hl
 ·exact hl
 ·rw [Array.getElem?_eq_none hl] at hc; cases hc
end Go.Proofs.YtfejjfbhlmjkeaaDoor.C
end
section
namespace Go.Proofs.YtfejjfbhlmjkeaaDoor.C
open Go.RowKit Go.Shelf Go.Lib Go.Proofs.YtfejjfbhlmjkeaaDoorW.PrintWords Go.Proofs.YtfejjfbhlmjkeaaDoorW.PrintLast Go.Proofs.YtfejjfbhlmjkeaaDoorW.PrintMore Go.Proofs.YtfejjfbhlmjkeaaDoor.B Go.Proofs.YtfejjfbhlmjkeaaDoor.PModelMore Go.Proofs.YtfejjfbhlmjkeaaDoor.CQ
def Con (w : World) : Prop := ∀ (s sub : ByteArray) (w' : World), s.size < 4294967281 → Below w.heap.size w w' → Calls Tryd.prog 23 #[.string s, .string sub] w' fun e w2 => e = .returned (.bool (Lib.contains s.data.toList sub.data.toList)) ∧ w2 = w'
theorem Con.below {w w1 : World} (h : Con w) (hb : Below w.heap.size w w1) : Con w1 := fun s sub w' hs hb' => h s sub w' hs (below_step hb hb')
theorem con_of {W : World} (h : W.ShapedOpen Tryd.prog) : Con W := by
 obtain ⟨m, hm⟩ := cell_of_shapedOpen_int (P := Tryd.prog) (g := 0) (t := 3) (zero := #[.int .i64 0]) h (of_decide_eq_true (by kernel_rfl)) (by kernel_rfl) rfl (by kernel_rfl) (by kernel_rfl) Tryd.underlying3
 intro s sub w' hs hb
 exact Tryd.strings_Contains s sub m w' hs (cell_below hb hm)
end Go.Proofs.YtfejjfbhlmjkeaaDoor.C
end
