/- Boxes of entries. -/
import Derived.Test.YtfejjfbhlmjkeaaE1b
set_option linter.unusedVariables false
namespace Go.Proofs.Ytfejjfbhlmjkeaa.C
open Go.RowKit Go.Sort Go.Proofs.YtfejjfbhlmjkeaaW.PrintWords Go.Proofs.YtfejjfbhlmjkeaaW.PrintLast Go.Proofs.YtfejjfbhlmjkeaaW.PrintMore Go.Proofs.Ytfejjfbhlmjkeaa.B Go.Proofs.Ytfejjfbhlmjkeaa.PRecordIs Go.Proofs.Ytfejjfbhlmjkeaa.CQ

/-- A box of an entry. -/
def BoxE (w : World) (j : Nat) (x : Ent) : Prop := w.heap[j]? = some (.cells #[.int .i64 x.at_, .slice x.A x.ls.length x.c, .string x.line] 34)
theorem BoxE.below {w w' : World} {j : Nat} {x : Ent} (h : BoxE w j x) (k : Below w.heap.size w w') : BoxE w' j x := heap_below k h
theorem BoxE.c0 {w : World} {j : Nat} {x : Ent} (h : BoxE w j x) : w.cell? ⟨j, 0, none⟩ = some (.int .i64 x.at_) := blk_cell h 0
theorem BoxE.c1 {w : World} {j : Nat} {x : Ent} (h : BoxE w j x) : w.cell? ⟨j, 1, none⟩ = some (.slice x.A x.ls.length x.c) := blk_cell h 1
theorem BoxE.c2 {w : World} {j : Nat} {x : Ent} (h : BoxE w j x) : w.cell? ⟨j, 2, none⟩ = some (.string x.line) := blk_cell h 2
theorem BoxE.lt {w : World} {j : Nat} {x : Ent} (h : BoxE w j x) : j < w.heap.size := blk_lt h
theorem bd_class (w : World) (n : Nat) (os : Array Obj) : Below w.heap.size w (grow (w.drewN n) os) := below_class (Below.refl _ w) (Nat.le_refl _) n os
end Go.Proofs.Ytfejjfbhlmjkeaa.C
