/- What the reference's reader computes, as plain mathematics: the value of bytes, and when they are a number's. No program in sight. -/
import Derived.Test.YtahjpeihekphcaaN9
set_option linter.unusedVariables false
namespace Go.Proofs.Ytahjpeihekphcaa.N
open Go.RowKit Go.Proofs.Ytahjpeihekphcaa.Vi

/-- The value of bytes, seven bits a byte. -/
def val : List UInt8 → Nat
  | [] => 0
  | b :: t => b.toNat % 128 + 128 * val t
theorem val_snoc (l : List UInt8) (b : UInt8) : val (l ++ [b]) = val l + 128 ^ l.length * (b.toNat % 128) := by
  induction l with
  | nil => simp [val]
  | cons c l ih =>
    simp only [List.cons_append, val, ih, List.length_cons, Nat.pow_succ]
    have : 128 * (val l + 128 ^ l.length * (b.toNat % 128)) = 128 * val l + 128 ^ l.length * 128 * (b.toNat % 128) := by
      rw [Nat.mul_add, ← Nat.mul_assoc, Nat.mul_comm 128 (128 ^ l.length)]
    omega
theorem val_take {l : List UInt8} {i : Nat} (hi : i < l.length) : val (l.take (i + 1)) = val (l.take i) + 128 ^ i * (l[i].toNat % 128) := by
  rw [List.take_succ_eq_append_getElem hi, val_snoc, List.length_take, Nat.min_eq_left (by omega)]
/-- What is known at the i-th byte, where all ahead of it say that more follow. -/
def Go1 (l : List UInt8) (i : Nat) : Prop := Got l i (val (l.take i))
theorem Go1.start (l : List UInt8) : Go1 l 0 := by
  unfold Go1
  rw [List.take_zero]
  exact Got.start l
theorem Go1.more {l : List UInt8} {i : Nat} (h : Go1 l i) (hi : i < l.length) (hc : ¬ l[i].toNat < 128) : Go1 l (i + 1) := by
  have hlt : l[i].toNat < 256 := l[i].toNat_lt
  have e : l[i].toNat % 128 = l[i].toNat - 128 := by omega
  unfold Go1
  rw [val_take hi, e]
  exact Got.more h hi hc
theorem num_yes {l : List UInt8} {N most k : Nat} (hN : N < 18446744073709551616) (h : vint N = l.take k) (hm : N ≤ most) : nxt most (some l) = (N, some (l.drop k)) := by
  have e : l = vint N ++ l.drop k := by rw [h, List.take_append_drop]
  conv => lhs; rw [e]
  exact nxt_yes hN hm
theorem num_no {l : List UInt8} {most k : Nat} (h : Go1 l k) (hk : k < l.length) (hc : l[k].toNat < 128) (hno : ¬ (vint (val (l.take (k + 1)) % 18446744073709551616) = l.take (k + 1) ∧ val (l.take (k + 1)) % 18446744073709551616 ≤ most)) : nxt most (some l) = (0, none) := by
  refine nxt_no fun n r he hn => ?_
  obtain ⟨h1, _, h3⟩ := (Got.last h hk hc).1 he
  have hv : val (l.take (k + 1)) = n := by rw [val_take hk, h1, Nat.mod_eq_of_lt hc]
  have ht : vint n = l.take (k + 1) := by
    have h4 : l.take (k + 1) ++ l.drop (k + 1) = vint n ++ l.drop (k + 1) := by rw [List.take_append_drop, ← h3]; exact he
    exact (List.append_cancel_right h4).symm
  rw [hv, Nat.mod_eq_of_lt hn] at hno
  by_cases hm : n ≤ most
  · exact absurd ⟨ht, hm⟩ hno
  · omega
theorem num_out {l : List UInt8} {most k : Nat} (h : Go1 l k) (hk : ¬ k < l.length ∨ 10 ≤ k) : nxt most (some l) = (0, none) := by
  refine nxt_no fun n r he hn => ?_
  rcases hk with hk | hk
  · exact absurd he (Got.none h hk n r)
  · obtain ⟨m, h1, h2, _⟩ := (h.2.2 n r).1 he
    have hm : m ≠ 0 := by rcases h2 with h2 | h2 <;> omega
    have hp : (128 : Nat) ^ 10 = 1180591620717411303424 := by decide
    have hp2 : 128 ^ 10 ≤ 128 ^ k := Nat.pow_le_pow_right (by decide) hk
    have : 128 ^ k * 1 ≤ 128 ^ k * m := Nat.mul_le_mul_left _ (by omega)
    omega
/-- One step of the value, from behind. -/
theorem val_step {l : List UInt8} {i k : Nat} (hi : i < k) (hk : k ≤ l.length) : val ((l.take k).drop i) = l[i].toNat % 128 + 128 * val ((l.take k).drop (i + 1)) := by
  have h : i < (l.take k).length := by rw [List.length_take]; omega
  rw [List.drop_eq_getElem_cons h, List.getElem_take]
  rfl
end Go.Proofs.Ytahjpeihekphcaa.N
