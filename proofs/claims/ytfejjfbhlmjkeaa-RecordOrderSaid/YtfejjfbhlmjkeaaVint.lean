/- Numbers as bytes, seven bits a byte, the lowest first, as plain mathematics: how many bytes, that a beginning is told by its bytes alone, and what a reader that gathers them knows at each byte. No program in sight. -/
import Derived.Lib.ItoaNum
set_option linter.unusedVariables false
namespace Go.Proofs.Ytfejjfbhlmjkeaa.Vi

/-- A number's bytes. -/
def vint (n : Nat) : List UInt8 :=
  if h : n < 128 then [UInt8.ofNat n] else UInt8.ofNat (n % 128 + 128) :: vint (n / 128)
termination_by n
decreasing_by omega
theorem vint_small {n : Nat} (h : n < 128) : vint n = [UInt8.ofNat n] := by rw [vint, dif_pos h]
theorem vint_big {n : Nat} (h : ¬ n < 128) : vint n = UInt8.ofNat (n % 128 + 128) :: vint (n / 128) := by rw [vint, dif_neg h]
theorem vint_ne (n : Nat) : vint n ≠ [] := by
  by_cases h : n < 128
  · rw [vint_small h]; simp
  · rw [vint_big h]; simp
theorem vint_pos (n : Nat) : 1 ≤ (vint n).length := by
  have := vint_ne n
  rcases hv : vint n with _ | ⟨a, l⟩
  · exact absurd hv this
  · simp
theorem vint_le (k : Nat) : ∀ n : Nat, (vint n).length ≤ k + 1 ↔ n < 128 ^ (k + 1) := by
  induction k with
  | zero =>
    intro n
    by_cases h : n < 128
    · rw [vint_small h]; simp [h]
    · rw [vint_big h]
      have := vint_pos (n / 128)
      simp [h]
      exact vint_ne _
  | succ k ih =>
    intro n
    by_cases h : n < 128
    · rw [vint_small h]
      have : 128 ^ 1 ≤ 128 ^ (k + 1 + 1) := Nat.pow_le_pow_right (by decide) (by omega)
      simp
      omega
    · rw [vint_big h, List.length_cons]
      have h1 := ih (n / 128)
      have h2 : n / 128 < 128 ^ (k + 1) ↔ n < 128 ^ (k + 1) * 128 := Nat.div_lt_iff_lt_mul (by decide)
      have h3 : 128 ^ (k + 1 + 1) = 128 ^ (k + 1) * 128 := Nat.pow_succ ..
      rw [h3, ← h2, ← h1]
      omega
theorem vint_le10 {n : Nat} (h : n < 18446744073709551616) : (vint n).length ≤ 10 := by
  rw [vint_le 9]
  have : (128 : Nat) ^ (9 + 1) = 1180591620717411303424 := by decide
  omega
/-- What its begin tells. -/
theorem vint_cons_small {c : UInt8} (hc : c.toNat < 128) {n : Nat} {t r : List UInt8} : c :: t = vint n ++ r ↔ n = c.toNat ∧ r = t := by
  constructor
  · intro h
    by_cases hn : n < 128
    · rw [vint_small hn] at h
      simp only [List.singleton_append, List.cons.injEq] at h
      refine ⟨?_, h.2.symm⟩
      rw [h.1, UInt8.toNat_ofNat']
      omega
    · rw [vint_big hn] at h
      simp only [List.cons_append, List.cons.injEq] at h
      have h1 := h.1
      rw [h1, UInt8.toNat_ofNat'] at hc
      omega
  · rintro ⟨rfl, rfl⟩
    rw [vint_small hc]
    simp
theorem vint_cons_big {c : UInt8} (hc : ¬ c.toNat < 128) {n : Nat} {t r : List UInt8} : c :: t = vint n ++ r ↔ ∃ m, n = (c.toNat - 128) + 128 * m ∧ m ≠ 0 ∧ t = vint m ++ r := by
  have hlt : c.toNat < 256 := c.toNat_lt
  constructor
  · intro h
    by_cases hn : n < 128
    · rw [vint_small hn] at h
      simp only [List.singleton_append, List.cons.injEq] at h
      have h1 := h.1
      rw [h1, UInt8.toNat_ofNat'] at hc
      omega
    · rw [vint_big hn] at h
      simp only [List.cons_append, List.cons.injEq] at h
      obtain ⟨h1, h2⟩ := h
      have e : c.toNat = n % 128 + 128 := by rw [h1, UInt8.toNat_ofNat']; omega
      exact ⟨n / 128, by omega, by omega, h2⟩
  · rintro ⟨m, rfl, hm, rfl⟩
    have hn : ¬ (c.toNat - 128 + 128 * m < 128) := by omega
    rw [vint_big hn]
    have e1 : (c.toNat - 128 + 128 * m) / 128 = m := by omega
    have e2 : (c.toNat - 128 + 128 * m) % 128 + 128 = c.toNat := by omega
    rw [e1, e2]
    simp
theorem vint_inj {n m : Nat} {r s : List UInt8} (h : vint n ++ r = vint m ++ s) : n = m ∧ r = s := by
  induction n using Nat.strongRecOn generalizing m with
  | _ n ih =>
    by_cases hn : n < 128
    · rw [vint_small hn, List.singleton_append] at h
      have := (vint_cons_small (by rw [UInt8.toNat_ofNat']; omega)).1 h
      rw [UInt8.toNat_ofNat'] at this
      exact ⟨by omega, this.2.symm⟩
    · rw [vint_big hn, List.cons_append] at h
      obtain ⟨k, hk, h0, h1⟩ := (vint_cons_big (by rw [UInt8.toNat_ofNat']; omega)).1 h
      rw [UInt8.toNat_ofNat'] at hk
      obtain ⟨e1, e2⟩ := ih (n / 128) (by omega) h1
      exact ⟨by omega, e2⟩
/-- What is known when i bytes have been gathered to acc. -/
def Got (l : List UInt8) (i acc : Nat) : Prop :=
  i ≤ l.length ∧ acc < 128 ^ i ∧ ∀ n r, l = vint n ++ r ↔ ∃ m, n = acc + 128 ^ i * m ∧ (i = 0 ∨ m ≠ 0) ∧ l.drop i = vint m ++ r
theorem Got.start (l : List UInt8) : Got l 0 0 := by
  refine ⟨Nat.zero_le _, by simp, fun n r => ?_⟩
  simp
theorem Got.more {l : List UInt8} {i acc : Nat} (h : Got l i acc) (hi : i < l.length) (hc : ¬ l[i].toNat < 128) : Got l (i + 1) (acc + 128 ^ i * (l[i].toNat - 128)) := by
  obtain ⟨h1, h2, h3⟩ := h
  have hlt : l[i].toNat < 256 := l[i].toNat_lt
  have hp : 0 < 128 ^ i := Nat.pow_pos (by decide)
  refine ⟨hi, ?_, fun n r => ?_⟩
  · rw [Nat.pow_succ]
    have : 128 ^ i * (l[i].toNat - 128) ≤ 128 ^ i * 127 := Nat.mul_le_mul_left _ (by omega)
    omega
  · rw [h3, List.drop_eq_getElem_cons hi]
    constructor
    · rintro ⟨m, rfl, hm, hd⟩
      obtain ⟨k, rfl, hk, ht⟩ := (vint_cons_big hc).1 hd
      refine ⟨k, ?_, .inr hk, ht⟩
      rw [Nat.mul_add, Nat.pow_succ, Nat.mul_assoc]
      omega
    · rintro ⟨k, rfl, hk, ht⟩
      have hk : k ≠ 0 := by rcases hk with hk | hk <;> omega
      refine ⟨(l[i].toNat - 128) + 128 * k, ?_, .inr (by omega), (vint_cons_big hc).2 ⟨k, rfl, hk, ht⟩⟩
      rw [Nat.mul_add, Nat.pow_succ, Nat.mul_assoc]
      omega
/-- The last byte: what it is a begin of. -/
theorem Got.last {l : List UInt8} {i acc : Nat} (h : Got l i acc) (hi : i < l.length) (hc : l[i].toNat < 128) {n : Nat} {r : List UInt8} :
    l = vint n ++ r ↔ n = acc + 128 ^ i * l[i].toNat ∧ (i = 0 ∨ l[i].toNat ≠ 0) ∧ r = l.drop (i + 1) := by
  rw [h.2.2, List.drop_eq_getElem_cons hi]
  constructor
  · rintro ⟨m, rfl, hm, hd⟩
    obtain ⟨rfl, rfl⟩ := (vint_cons_small hc).1 hd
    exact ⟨rfl, hm, rfl⟩
  · rintro ⟨rfl, hm, rfl⟩
    exact ⟨_, rfl, hm, (vint_cons_small hc).2 ⟨rfl, rfl⟩⟩
/-- The last byte, and the size: whether it is the one way of writing it. -/
theorem Got.size {l : List UInt8} {i acc : Nat} (h : Got l i acc) (hi : i < l.length) (hc : l[i].toNat < 128) : (vint (acc + 128 ^ i * l[i].toNat)).length = i + 1 ↔ (i = 0 ∨ l[i].toNat ≠ 0) := by
  have h2 := h.2.1
  have hp : 0 < 128 ^ i := Nat.pow_pos (by decide)
  have hle : (vint (acc + 128 ^ i * l[i].toNat)).length ≤ i + 1 := by
    rw [vint_le i, Nat.pow_succ]
    have : 128 ^ i * l[i].toNat ≤ 128 ^ i * 127 := Nat.mul_le_mul_left _ (by omega)
    omega
  constructor
  · intro hs
    by_cases h0 : i = 0
    · exact .inl h0
    · right
      intro hz
      rw [hz, Nat.mul_zero, Nat.add_zero] at hs
      have := (vint_le (i - 1) acc).2 (by rw [show i - 1 + 1 = i by omega]; exact h2)
      omega
  · intro hor
    by_cases h0 : i = 0
    · have := vint_pos (acc + 128 ^ i * l[i].toNat)
      omega
    · have hz : l[i].toNat ≠ 0 := by rcases hor with h | h <;> omega
      have hg : ¬ acc + 128 ^ i * l[i].toNat < 128 ^ i := by
        have : 128 ^ i * 1 ≤ 128 ^ i * l[i].toNat := Nat.mul_le_mul_left _ (by omega)
        omega
      have := (not_congr (vint_le (i - 1) (acc + 128 ^ i * l[i].toNat))).2 (by rw [show i - 1 + 1 = i by omega]; exact hg)
      omega
/-- No bytes left: it begins with no number. -/
theorem Got.none {l : List UInt8} {i acc : Nat} (h : Got l i acc) (hi : ¬ i < l.length) (n : Nat) (r : List UInt8) : l ≠ vint n ++ r := by
  intro he
  obtain ⟨m, _, _, hd⟩ := (h.2.2 n r).1 he
  have : l.drop i = [] := by rw [List.drop_eq_nil_iff]; omega
  rw [this] at hd
  have := congrArg List.length hd
  have := vint_pos m
  simp at *
  omega
/-- The tenth byte is more than one: it begins with no number of 64 bits. -/
theorem Got.great {l : List UInt8} {acc : Nat} (h : Got l 9 acc) (hi : 9 < l.length) (hc : 1 < l[9].toNat) (n : Nat) (r : List UInt8) (he : l = vint n ++ r) : 18446744073709551616 ≤ n := by
  obtain ⟨m, rfl, _, hd⟩ := (h.2.2 n r).1 he
  rw [List.drop_eq_getElem_cons hi] at hd
  have hp : (128 : Nat) ^ 9 = 9223372036854775808 := by decide
  rw [hp]
  by_cases hs : l[9].toNat < 128
  · obtain ⟨rfl, _⟩ := (vint_cons_small hs).1 hd
    omega
  · obtain ⟨k, rfl, hk, _⟩ := (vint_cons_big hs).1 hd
    omega
/-- How many bytes, out of how many bits. -/
theorem size_bits {n : Nat} (h : n < 18446744073709551616) : (max (Lib.bitLen n + 6) 7) / 7 = (vint n).length := by
  by_cases h0 : n = 0
  · subst h0
    rw [vint_small (by decide)]
    have : Lib.bitLen 0 = 0 := Lib.bitLenAux_zero 64
    rw [this]
    rfl
  · obtain ⟨b1, b2, b3⟩ := Lib.bitLenAux_bounds 64 n h h0
    have eb : Lib.bitLen n = Lib.bitLenAux 64 n := rfl
    rw [← eb] at b1 b2 b3
    obtain ⟨k, hk⟩ : ∃ k, (vint n).length = k + 1 := ⟨(vint n).length - 1, by have := vint_pos n; omega⟩
    have hp : ∀ j, 128 ^ j = 2 ^ (7 * j) := fun j => by
      rw [show (128 : Nat) = 2 ^ 7 by decide, ← Nat.pow_mul]
    have u1 : n < 2 ^ (7 * (k + 1)) := by
      rw [← hp]
      exact (vint_le k n).1 (by omega)
    have u2 : k = 0 ∨ 2 ^ (7 * k) ≤ n := by
      by_cases hk0 : k = 0
      · exact .inl hk0
      · right
        have := (not_congr (vint_le (k - 1) n)).1 (by omega)
        rw [show k - 1 + 1 = k by omega, hp] at this
        omega
    have v1 : Lib.bitLen n - 1 < 7 * (k + 1) := (Nat.pow_lt_pow_iff_right (by decide : 1 < 2)).1 (Nat.lt_of_le_of_lt b2 u1)
    have v2 : k = 0 ∨ 7 * k < Lib.bitLen n := by
      rcases u2 with u2 | u2
      · exact .inl u2
      · exact .inr ((Nat.pow_lt_pow_iff_right (by decide : 1 < 2)).1 (Nat.lt_of_le_of_lt u2 b3))
    rw [hk]
    omega
end Go.Proofs.Ytfejjfbhlmjkeaa.Vi
