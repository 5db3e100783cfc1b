/- Bits of bytes as bits of their number: what it is to turn one bit, and up to 32 in a row. No program in sight. -/
import Derived.Test.YtahjpeihekphcaaCrc
set_option linter.unusedVariables false
namespace Go.Proofs.Ytahjpeihekphcaa.Crc
/-- One bit of a byte otherwise. -/
def flip (b : UInt8) (j : Nat) : UInt8 := UInt8.ofNat (b.toNat ^^^ 2 ^ j)
theorem flip_toNat (b : UInt8) {j : Nat} (hj : j < 8) : (flip b j).toNat = b.toNat ^^^ 2 ^ j := by
  have h1 := byte_lt b
  have h2 : 2 ^ j < 2 ^ 8 := Nat.pow_lt_pow_right (by decide) hj
  have := Nat.xor_lt_two_pow (n := 8) (show b.toNat < 2 ^ 8 by omega) h2
  unfold flip
  rw [UInt8.toNat_ofNat']
  exact Nat.mod_eq_of_lt this
theorem mul256_xor (x y : Nat) : 256 * (x ^^^ y) = 256 * x ^^^ 256 * y := by
  have h := Nat.shiftLeft_xor_distrib (a := x) (b := y) (i := 8)
  simp only [Nat.shiftLeft_eq] at h
  have e : (2 ^ 8 : Nat) = 256 := by decide
  rw [e] at h
  rw [Nat.mul_comm, h, Nat.mul_comm x, Nat.mul_comm y]
theorem num_flip : ∀ (l : List UInt8) (i j : Nat) (hi : i < l.length), j < 8 → num (l.set i (flip l[i] j)) = num l ^^^ 2 ^ (8 * i + j)
  | b :: l, 0, j, _, hj => by
    simp only [List.set_cons_zero, num, List.getElem_cons_zero]
    rw [add_xor (byte_lt _), add_xor (byte_lt _), flip_toNat b hj, xor_rc]
    simp
  | b :: l, i + 1, j, hi, hj => by
    simp only [List.set_cons_succ, num, List.getElem_cons_succ]
    rw [add_xor (byte_lt _), add_xor (byte_lt _), num_flip l i j (by simpa using hi) hj, mul256_xor, Nat.xor_assoc]
    congr 2
    have e : (256 : Nat) = 2 ^ 8 := by decide
    rw [e, ← Nat.pow_add]
    congr 1
    omega
theorem mod_bit (bits k : Nat) : bits % 2 ^ (k + 1) = bits % 2 ^ k ^^^ (if bits / 2 ^ k % 2 = 1 then 2 ^ k else 0) := by
  refine Nat.eq_of_testBit_eq fun i => ?_
  rw [Nat.testBit_xor, Nat.testBit_mod_two_pow, Nat.testBit_mod_two_pow]
  have hb : bits.testBit k = decide (bits / 2 ^ k % 2 = 1) := by
    rw [Nat.testBit_eq_decide_div_mod_eq]
  by_cases h : bits / 2 ^ k % 2 = 1
  · rw [if_pos h, Nat.testBit_two_pow]
    by_cases h1 : i < k
    · have e1 : i < k + 1 := by omega
      have e2 : k ≠ i := by omega
      simp [h1, e1, e2]
    · by_cases h2 : i = k
      · subst h2
        have : bits.testBit i = true := by rw [hb]; simpa using h
        simp [this]
      · have e1 : ¬ i < k + 1 := by omega
        have e2 : k ≠ i := by omega
        simp [h1, e1, e2]
  · rw [if_neg h]
    by_cases h1 : i < k
    · have e1 : i < k + 1 := by omega
      simp [h1, e1]
    · by_cases h2 : i = k
      · subst h2
        have : bits.testBit i = false := by rw [hb]; simpa using h
        simp [this]
      · have e1 : ¬ i < k + 1 := by omega
        simp [h1, e1]
theorem pow_mul_xor (p x y : Nat) : 2 ^ p * (x ^^^ y) = 2 ^ p * x ^^^ 2 ^ p * y := by
  have h := Nat.shiftLeft_xor_distrib (a := x) (b := y) (i := p)
  simp only [Nat.shiftLeft_eq] at h
  rw [Nat.mul_comm, h, Nat.mul_comm x, Nat.mul_comm y]
/-- One round: the bit is set. -/
theorem round_set {l : List UInt8} {n bits at_ k : Nat} (hn : num l = n ^^^ 2 ^ at_ * (bits % 2 ^ k)) (hi : (at_ + k) / 8 < l.length) (hb : bits / 2 ^ k % 2 = 1) :
    num (l.set ((at_ + k) / 8) (flip l[(at_ + k) / 8] ((at_ + k) % 8))) = n ^^^ 2 ^ at_ * (bits % 2 ^ (k + 1)) := by
  rw [num_flip _ _ _ hi (by omega), hn, mod_bit, if_pos hb, pow_mul_xor, Nat.xor_assoc, ← Nat.pow_add]
  congr 3
  omega
/-- One round: it isn't. -/
theorem round_not {n bits at_ k : Nat} (hb : ¬ bits / 2 ^ k % 2 = 1) : n ^^^ 2 ^ at_ * (bits % 2 ^ k) = n ^^^ 2 ^ at_ * (bits % 2 ^ (k + 1)) := by
  rw [mod_bit, if_neg hb, Nat.xor_zero]
end Go.Proofs.Ytahjpeihekphcaa.Crc
