import Derived.Lib.RuneCountTail
import Derived.Test.YtpleiklodomgiaaGreatDoorModelPages27
set_option linter.unusedVariables false
set_option linter.unusedSimpArgs false
section
namespace Go.Proofs.YtpleiklodomgiaaGreatDoor.B
end Go.Proofs.YtpleiklodomgiaaGreatDoor.B
namespace Go.Proofs.YtpleiklodomgiaaGreatDoor.WL
end Go.Proofs.YtpleiklodomgiaaGreatDoor.WL
namespace Go.Proofs.YtpleiklodomgiaaGreatDoor.W
open Go.RowKit Go.Lib Go.Proofs.YtpleiklodomgiaaGreatDoor.B Go.Proofs.YtpleiklodomgiaaGreatDoor.WL
def pl (s : ByteArray) (pos : Nat) (op : Bool) : List Nat :=
 if h : pos < s.size then
  if letter ((Utf8.decode s pos).1 : Int) = op then pl s (pos + (Utf8.decode s pos).2) op
  else pos :: pl s (pos + (Utf8.decode s pos).2) (!op)
 else if op then [s.size] else []
termination_by s.size - pos
decreasing_by
 all_goals (have := Lib.decode_width_pos s pos h; omega)
theorem pl_end {s : ByteArray} {pos : Nat} (h : ¬ pos < s.size) (op : Bool) : pl s pos op = if op then [s.size] else [] := by rw [pl.eq_def, dif_neg h]
theorem pl_same {s : ByteArray} {pos : Nat} (h : pos < s.size) {op : Bool} (hl : letter ((Utf8.decode s pos).1 : Int) = op) : pl s pos op = pl s (pos + (Utf8.decode s pos).2) op := by rw [pl.eq_def, dif_pos h, if_pos hl]
theorem pl_turn {s : ByteArray} {pos : Nat} (h : pos < s.size) {op : Bool} (hl : letter ((Utf8.decode s pos).1 : Int) = !op) : pl s pos op = pos :: pl s (pos + (Utf8.decode s pos).2) (!op) := by
 rw [pl.eq_def, dif_pos h, if_neg (by rw [hl]; cases op <;> simp)]
def flat (l : List (Nat × Nat)) : List Nat := l.flatMap fun x => [x.1, x.2]
theorem pl_spans (s : ByteArray) : ∀ (n pos : Nat), s.size - pos ≤ n → flat (spansFrom s pos none) = pl s pos false ∧ ∀ f, flat (spansFrom s pos (some f)) = f :: pl s pos true := by
 intro n
 induction n with
 | zero => intro pos h; rw [spansFrom_end (by omega), pl_end (by omega)]; exact ⟨rfl, fun f => by rw [spansFrom_end (by omega), pl_end (by omega)]; rfl⟩
 | succ n ih =>
  intro pos h
  by_cases hp : pos < s.size
  ·have hw := decode_width_pos s pos hp
   have h1 := ih (pos + (Utf8.decode s pos).2) (by omega)
   cases hl : letter ((Utf8.decode s pos).1 : Int) with
   | true =>
    refine ⟨?_, fun f => ?_⟩
    ·rw [spansFrom_is hp hl, pl_turn hp (by rw [hl]; rfl), h1.2]; rfl
    ·rw [spansFrom_is hp hl, pl_same hp hl, h1.2]; rfl
   | false =>
    refine ⟨?_, fun f => ?_⟩
    ·rw [spansFrom_none hp hl, pl_same hp hl, h1.1]
    ·rw [spansFrom_some hp hl, pl_turn hp (by rw [hl]; rfl)]
     show f :: pos :: flat _ = _
     rw [h1.1]; rfl
  ·rw [spansFrom_end hp, pl_end hp]
   exact ⟨rfl, fun f => by rw [spansFrom_end hp, pl_end hp]; rfl⟩
theorem pl_all (s : ByteArray) : pl s 0 false = flat (spansFrom s 0 none) := ((pl_spans s s.size 0 (by omega)).1).symm
theorem flat_length (l : List (Nat × Nat)) : (flat l).length = 2 * l.length := by
 induction l with
 | nil => rfl
 | cons x t ih => show (flat t).length + 1 + 1 = _; rw [ih, List.length_cons]; omega
theorem flat_at (l : List (Nat × Nat)) (i : Nat) (h : i < l.length) : (flat l)[2 * i]? = some l[i].1 ∧ (flat l)[2 * i + 1]? = some l[i].2 := by
 induction l generalizing i with
 | nil => cases h
 | cons x t ih =>
  cases i with
  | zero => exact ⟨rfl, rfl⟩
  | succ i =>
   have h1 := ih i (by simpa using h)
   have e : ∀ k, (flat (x :: t))[k + 2]? = (flat t)[k]? := fun k => rfl
   have e1 : 2 * (i + 1) = 2 * i + 2 := by omega
   have e2 : 2 * (i + 1) + 1 = (2 * i + 1) + 2 := by omega
   rw [e1, e, show 2 * i + 2 + 1 = (2 * i + 1) + 2 by omega, e]
   exact h1
end Go.Proofs.YtpleiklodomgiaaGreatDoor.W
end
