/- A region that draws its order, walked step by step: what is known of the world may be said anew, and more of it, behind each step. Plain lemmas beside the printed words. -/
import Derived.Test.YtfejjfbhlmjkeaaWTab
import Derived.Test.YtfejjfbhlmjkeaaWWords
import Derived.Test.YtfejjfbhlmjkeaaWLast
set_option linter.unusedVariables false
namespace Go.Proofs.Ytfejjfbhlmjkeaa.Reg
open Go.RowKit Go.Proofs.YtfejjfbhlmjkeaaW.PrintWords Go.Proofs.YtfejjfbhlmjkeaaW.PrintLast
section
variable {P : Program} {ops : Array Oper} {Q : Exit → Act → World → Prop} {md : Region.Mode}
/-- What holds behind every step may be said anew, stronger. -/
theorem wpAnyLast_str {S S' : World → Prop} (hSS : ∀ w, S' w → S w) : ∀ {fuel : Nat} {l : Array Bool} {a : Act} {w : World}, S' w → wpAnyLast P md ops Q S' [] fuel l a w → wpAnyLast P md ops Q S [] fuel l a w
  | 0, _, _, _, _, h => h
  | fuel + 1, _, _, _, hS, h => ⟨h.1, fun i hi => wpOp_mono (fun a' w' hh => ⟨fun _ _ => hSS _ (hh.1 (by simp) hS), wpAnyLast_str hSS (hh.1 (by simp) hS) hh.2⟩) (h.2 i hi)⟩
end
theorem below_step' {B : Nat} {w0 w w' : World} (h : Below B w0 w) (k : Below w.heap.size w w') (hB : B ≤ w0.heap.size := by exact Nat.le_refl _) : Below B w0 w' :=
  below_then h (Nat.le_trans hB h.size) k
end Go.Proofs.Ytfejjfbhlmjkeaa.Reg
