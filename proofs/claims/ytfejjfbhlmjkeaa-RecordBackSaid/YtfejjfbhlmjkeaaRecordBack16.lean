/- Texts of this claim (printed ones, too), put together by a program that left out what the claim does not use. -/
import Derived.Test.YtfejjfbhlmjkeaaRecordBack9
section
set_option linter.unusedVariables false
set_option linter.unusedSimpArgs false
namespace Go.Proofs.Ytfejjfbhlmjkeaa.N
open Go.RowKit Go.Proofs.YtfejjfbhlmjkeaaW.PrintWords Go.Proofs.YtfejjfbhlmjkeaaW.PrintLast Go.Proofs.Ytfejjfbhlmjkeaa.Bt Go.Proofs.Ytfejjfbhlmjkeaa.B Go.Proofs.Ytfejjfbhlmjkeaa.Vi Go.Proofs.Ytfejjfbhlmjkeaa.Reg
/-- The reference's reader at block h. -/
def Mx (w : World) (h : Nat) (S : ByteArray) (p : Nat) (bad : Bool) : Prop := w.heap[h]? = some (.cells #[.string S, .int .i64 (p : Int), .bool bad] 59 (0, 0))
theorem Mx.cell0 {w : World} {h p : Nat} {S : ByteArray} {bad : Bool} (m : Mx w h S p bad) : w.cell? ⟨h, 0, none⟩ = some (.string S) := by rw [blk_cell m]; rfl
theorem Mx.cell1 {w : World} {h p : Nat} {S : ByteArray} {bad : Bool} (m : Mx w h S p bad) : w.cell? ⟨h, 1, none⟩ = some (.int .i64 (p : Int)) := by rw [blk_cell m]; rfl
theorem Mx.free {w : World} {h p : Nat} {S : ByteArray} {bad : Bool} (m : Mx w h S p bad) (i : Nat) : w.frozen? ⟨h, i, none⟩ = false := blk_frozen m i
theorem Mx.lt {w : World} {h p : Nat} {S : ByteArray} {bad : Bool} (m : Mx w h S p bad) : h < w.heap.size := blk_lt m
theorem Mx.below {w w' : World} {h p : Nat} {S : ByteArray} {bad : Bool} (m : Mx w h S p bad) (hb : Below w.heap.size w w') : Mx w' h S p bad := blk_below m hb
theorem Mx.kept {w w' : World} {h p : Nat} {S : ByteArray} {bad : Bool} {row : Option Nat} (m : Mx w h S p bad) (hg : w.grownBy w' row) (hne : some h ≠ row) : Mx w' h S p bad := blk_grown m hg hne
theorem Mx.set1 {w : World} {h p : Nat} {S : ByteArray} {bad : Bool} (m : Mx w h S p bad) (q : Nat) : Mx (w.setCell ⟨h, 1, none⟩ (.int .i64 (q : Int))) h S q bad := blk_set m 1 _
end Go.Proofs.Ytfejjfbhlmjkeaa.N
end
section
set_option linter.unusedVariables false
namespace Go.Proofs.Ytfejjfbhlmjkeaa.N
open Go.RowKit Go.Proofs.Ytfejjfbhlmjkeaa.Vi
/-- The value of bytes, seven bits a byte. -/
def val : List UInt8 → Nat
  | [] => 0
  | b :: t => b.toNat % 128 + 128 * val t
theorem val_snoc (l : List UInt8) (b : UInt8) : val (l ++ [b]) = val l + 128 ^ l.length * (b.toNat % 128) := by
  induction l with
  | nil => simp [val]
  | cons c l ih =>
    simp only [List.cons_append, val, ih, List.length_cons, Nat.pow_succ]
    have : 128 * (val l + 128 ^ l.length * (b.toNat % 128)) = 128 * val l + 128 ^ l.length * 128 * (b.toNat % 128) := by
      rw [Nat.mul_add, ← Nat.mul_assoc, Nat.mul_comm 128 (128 ^ l.length)]
    omega
theorem val_take {l : List UInt8} {i : Nat} (hi : i < l.length) : val (l.take (i + 1)) = val (l.take i) + 128 ^ i * (l[i].toNat % 128) := by
  rw [List.take_succ_eq_append_getElem hi, val_snoc, List.length_take, Nat.min_eq_left (by omega)]
/-- What is known at the i-th byte, where all ahead of it say that more follow. -/
def Go1 (l : List UInt8) (i : Nat) : Prop := Got l i (val (l.take i))
theorem Go1.start (l : List UInt8) : Go1 l 0 := by
  unfold Go1
  rw [List.take_zero]
  exact Got.start l
theorem Go1.more {l : List UInt8} {i : Nat} (h : Go1 l i) (hi : i < l.length) (hc : ¬ l[i].toNat < 128) : Go1 l (i + 1) := by
  have hlt : l[i].toNat < 256 := l[i].toNat_lt
  have e : l[i].toNat % 128 = l[i].toNat - 128 := by omega
  unfold Go1
  rw [val_take hi, e]
  exact Got.more h hi hc
end Go.Proofs.Ytfejjfbhlmjkeaa.N
end
section
set_option linter.unusedVariables false
set_option linter.unusedSimpArgs false
namespace Go.Proofs.Ytfejjfbhlmjkeaa.N
open Go.RowKit Go.Proofs.YtfejjfbhlmjkeaaW.PrintWords Go.Proofs.YtfejjfbhlmjkeaaW.PrintLast Go.Proofs.Ytfejjfbhlmjkeaa.Bt Go.Proofs.Ytfejjfbhlmjkeaa.B Go.Proofs.Ytfejjfbhlmjkeaa.Vi Go.Proofs.Ytfejjfbhlmjkeaa.Reg
end Go.Proofs.Ytfejjfbhlmjkeaa.N
end
section
set_option linter.unusedVariables false
set_option linter.unusedSimpArgs false
namespace Go.Proofs.Ytfejjfbhlmjkeaa.N
open Go.RowKit Go.Proofs.YtfejjfbhlmjkeaaW.PrintWords Go.Proofs.YtfejjfbhlmjkeaaW.PrintLast Go.Proofs.Ytfejjfbhlmjkeaa.Bt Go.Proofs.Ytfejjfbhlmjkeaa.B Go.Proofs.Ytfejjfbhlmjkeaa.Vi Go.Proofs.Ytfejjfbhlmjkeaa.Reg
/-- The state of the reference's reader. -/
def MR (w : World) (mb : Nat) (S : ByteArray) : Option (List UInt8) → Prop
  | some l => ∃ p, Mx w mb S p false ∧ p ≤ S.size ∧ l = S.data.toList.drop p
  | none => ∃ p, Mx w mb S p true ∧ p ≤ S.size
theorem MR.kept {w w' : World} {mb : Nat} {S : ByteArray} {st : Option (List UInt8)} {row : Option Nat} (h : MR w mb S st) (hg : w.grownBy w' row) (hne : some mb ≠ row) : MR w' mb S st := by
  cases st with
  | none => obtain ⟨p, h1, h2⟩ := h; exact ⟨p, h1.kept hg hne, h2⟩
  | some l => obtain ⟨p, h1, h2⟩ := h; exact ⟨p, h1.kept hg hne, h2⟩
theorem MR.lt {w : World} {mb : Nat} {S : ByteArray} {st : Option (List UInt8)} (h : MR w mb S st) : mb < w.heap.size := by
  cases st with
  | none => obtain ⟨p, h1, h2⟩ := h; exact h1.lt
  | some l => obtain ⟨p, h1, h2⟩ := h; exact h1.lt
end Go.Proofs.Ytfejjfbhlmjkeaa.N
end
