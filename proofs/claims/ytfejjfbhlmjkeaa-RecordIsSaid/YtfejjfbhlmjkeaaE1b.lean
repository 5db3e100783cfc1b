/- Entries that are played are small. -/
import Derived.Test.YtfejjfbhlmjkeaaE1
set_option linter.unusedVariables false
namespace Go.Proofs.Ytfejjfbhlmjkeaa.C
open Go.RowKit Go.Proofs.YtfejjfbhlmjkeaaW.PrintWords Go.Proofs.Ytfejjfbhlmjkeaa.PRecordIs Go.Proofs.Ytfejjfbhlmjkeaa.CQ

theorem great_few {k : Key} (h : greatB k = false) : k.ls.length ≤ 20 ∧ k.line.size ≤ 1000 ∧ ∀ x ∈ k.ls, x.f0.size ≤ 200 ∧ x.f1.size ≤ 200 := by
  unfold greatB at h
  simp only [Bool.or_eq_false_iff, decide_eq_false_iff_not] at h
  obtain ⟨h1, h2, h3⟩ := h
  refine ⟨by omega, by omega, fun x hx => ?_⟩
  have h4 := List.any_eq_false.1 h3 x hx
  unfold bigL at h4
  simp only [Bool.or_eq_true, decide_eq_true_eq, not_or] at h4
  omega
end Go.Proofs.Ytfejjfbhlmjkeaa.C
