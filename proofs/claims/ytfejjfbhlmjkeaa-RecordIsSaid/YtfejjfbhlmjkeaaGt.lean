/- '>' on strings: the other way round of '<'. -/
import Derived.Test.YtfejjfbhlmjkeaaWWords
set_option linter.unusedVariables false
namespace Go.Proofs.Ytfejjfbhlmjkeaa.Gt
open Go.RowKit

theorem less_swap : ∀ (x y : List UInt8), (!(Op.bytesLess x y || x == y)) = Op.bytesLess y x
  | [], [] => rfl
  | [], _ :: _ => rfl
  | _ :: _, [] => rfl
  | a :: x, b :: y => by
    have ih := less_swap x y
    simp only [Op.bytesLess]
    rcases Nat.lt_trichotomy a.toNat b.toNat with h | h | h
    · have h1 : a < b := h
      have h2 : ¬ b < a := fun h' => by have : b.toNat < a.toNat := h'; omega
      have h3 : (b == a) = false := by simp only [beq_eq_false_iff_ne]; rintro rfl; omega
      simp [h1, h2, h3]
    · have e : a = b := UInt8.toNat_inj.1 h
      subst e
      have h2 : ¬ a < a := fun h' => by have : a.toNat < a.toNat := h'; omega
      have h4 : (a :: x == a :: y) = (x == y) := by simp
      rw [h4]
      simp only [h2, decide_false, Bool.false_or, beq_self_eq_true, Bool.true_and]
      exact ih
    · have h1 : b < a := h
      have h2 : ¬ a < b := fun h' => by have : a.toNat < b.toNat := h'; omega
      have h3 : (a == b) = false := by simp only [beq_eq_false_iff_ne]; rintro rfl; omega
      have h4 : (a :: x == b :: y) = false := by simp only [beq_eq_false_iff_ne]; intro e; cases e; omega
      simp [h1, h2, h3, h4]
@[go_sem] theorem binOp_string_gtr (t : TypeId) (a b : ByteArray) : binOp .gtr t (.string a) (.string b) = pure (.bool (Op.bytesLess b.toList a.toList)) := by
  rw [← less_swap]
  simp [binOp, Op.stringOp]
@[go_sem] theorem binOp_string_geq (t : TypeId) (a b : ByteArray) : binOp .geq t (.string a) (.string b) = pure (.bool !(Op.bytesLess a.toList b.toList)) := by simp [binOp, Op.stringOp]
end Go.Proofs.Ytfejjfbhlmjkeaa.Gt
