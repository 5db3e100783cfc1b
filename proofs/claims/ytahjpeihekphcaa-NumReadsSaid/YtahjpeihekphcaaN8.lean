/- The walk of the law NumSizes. -/
import Derived.Test.YtahjpeihekphcaaN7
set_option linter.unusedVariables false
set_option linter.unusedSimpArgs false
namespace Go.Proofs.Ytahjpeihekphcaa.N
open Go.RowKit Go.Proofs.YtahjpeihekphcaaW.PrintWords Go.Proofs.YtahjpeihekphcaaW.PrintLast Go.Proofs.Ytahjpeihekphcaa.Bt Go.Proofs.Ytahjpeihekphcaa.B Go.Proofs.Ytahjpeihekphcaa.Vi

theorem pow128 (k : Nat) : 128 ^ k = 2 ^ (7 * k) := by rw [show (128 : Nat) = 2 ^ 7 by decide, ← Nat.pow_mul]
theorem shift_none {n k : Nat} (h : k = (vint n).length) : n / 2 ^ (7 * k) = 0 := by
  have hp := vint_pos n
  have := (vint_le (k - 1) n).1 (by omega)
  rw [show k - 1 + 1 = k by omega, pow128] at this
  exact Nat.div_eq_of_lt this
theorem shift_some {n k : Nat} (h : k = (vint n).length) (hk : 1 < k) : n / 2 ^ (7 * k - 7) ≠ 0 := by
  have := (not_congr (vint_le (k - 2) n)).1 (by omega)
  rw [show k - 2 + 1 = k - 1 by omega, pow128, show 7 * (k - 1) = 7 * k - 7 by omega] at this
  have h2 : 0 < 2 ^ (7 * k - 7) := Nat.pow_pos (by decide)
  intro h0
  rcases (Nat.div_eq_zero_iff).1 h0 with h | h <;> omega
theorem vint_mono {n m : Nat} (h : m ≤ n) : (vint m).length ≤ (vint n).length := by
  have hp := vint_pos n
  have := (vint_le ((vint n).length - 1) n).1 (by omega)
  have := (vint_le ((vint n).length - 1) m).2 (by omega)
  omega
set_option maxHeartbeats 1000000 in
theorem numSizes_any (n less : Nat) (w : World) (hn : n < 18446744073709551616) (hless : less < 18446744073709551616) : Calls Try.prog 6 #[.int .u64 (n : Int), .int .u64 (less : Int)] w fun e w' => e = .returned (.bool true) ∧ Below w.heap.size w w' := by
  have Hn := Aside0.mk hn
  have Hless := Aside0.mk hless
  clear hn hless
  go_enter Try.func6, Try.ntmps6
  go_wp2_with fail
  ((with_reducible refine (alive_any w).mono ?_); rintro e w1 ⟨rfl, hb⟩)
  have HB := Aside0.mk hb
  clear hb
  go_wp2_with fail
  ((with_reducible refine (size_any n Hn.out w1).mono ?_); rintro e w2 ⟨rfl, rfl⟩)
  obtain ⟨k, hk⟩ : ∃ k, k = (vint n).length := ⟨_, rfl⟩
  rw [← hk]
  have h1 : 1 ≤ k := by rw [hk]; exact vint_pos n
  have h10 : k ≤ 10 := by rw [hk]; exact vint_le10 Hn.out
  have Hk := Aside0.mk hk
  clear hk
  have d1 : decide ((k : Int) < 1) = false := decide_eq_false (by omega)
  have d2 : decide ((10 : Int) < (k : Int)) = false := decide_eq_false (by omega)
  go_wp2_with fail
  (refine (uint_any w1.heap.size (.slice none 0 0) [] n w1 (Own.nil _ _ _) (Nat.le_refl _) (by simp) Hn.out).mono ?_; rintro e w2 ⟨v2, rfl, hO2, hg2, -⟩)
  obtain ⟨A, c, rfl, hAc⟩ := hO2.shape
  have hl : (cs ([] ++ vint n)).length = k := by rw [cs_length, List.nil_append, Hk.out]
  rw [hl]
  have HB2 := Aside0.mk (below_near (A := none) HB.out (below_size HB.out) hg2)
  clear hO2 hg2 hAc hl HB
  have E1 : Aside0 (n / 2 ^ (7 * k) = 0) := ⟨shift_none Hk.out⟩
  have e1 : ((n : Int) / 2 ^ (7 * k) == 0) = true := by have := E1.out; simpa using (by exact_mod_cast this : (n : Int) / 2 ^ (7 * k) = 0)
  have e1' : ((n : Int) / 2 ^ (7 * k) != 0) = false := by simp only [bne, e1]; rfl
  have e2 : 1 < k → ((n : Int) / 2 ^ (7 * k - 7) == 0) = false := fun h => by have := shift_some Hk.out h; simpa using (by exact_mod_cast this : ¬ (n : Int) / 2 ^ (7 * k - 7) = 0)
  by_cases hles : n < less
  · have d5 : decide (n < less) = true := decide_eq_true hles
    clear hles
    by_cases h9 : k < 10
    · have d3 : decide ((k : Int) < 10) = true := decide_eq_true (by omega)
      by_cases h11 : 1 < k
      · have d4 : decide ((1 : Int) < (k : Int)) = true := decide_eq_true (by omega)
        have e3 := e2 h11
        clear e2
        go_wp2_with fail
        go_ret
        exact ⟨rfl, HB2.out⟩
      · have d4 : decide ((1 : Int) < (k : Int)) = false := decide_eq_false (by omega)
        clear e2
        go_wp2_with fail
        go_ret
        exact ⟨rfl, HB2.out⟩
    · have d3 : decide ((k : Int) < 10) = false := decide_eq_false (by omega)
      have d4 : decide ((1 : Int) < (k : Int)) = true := decide_eq_true (by omega)
      have e3 := e2 (by omega)
      clear e2
      go_wp2_with fail
      go_ret
      exact ⟨rfl, HB2.out⟩
  · have d5 : decide (n < less) = false := decide_eq_false hles
    have Hmo : Aside0 ((vint less).length ≤ k) := ⟨by rw [Hk.out]; exact vint_mono (by omega)⟩
    clear hles
    by_cases h9 : k < 10
    · have d3 : decide ((k : Int) < 10) = true := decide_eq_true (by omega)
      by_cases h11 : 1 < k
      · have d4 : decide ((1 : Int) < (k : Int)) = true := decide_eq_true (by omega)
        have e3 := e2 h11
        clear e2
        go_wp2_with fail
        ((with_reducible refine (size_any less Hless.out w2).mono ?_); rintro e w3 ⟨rfl, rfl⟩)
        have d6 : decide ((vint less).length ≤ k) = true := decide_eq_true Hmo.out
        go_wp2_with fail
        go_ret
        exact ⟨rfl, HB2.out⟩
      · have d4 : decide ((1 : Int) < (k : Int)) = false := decide_eq_false (by omega)
        clear e2
        go_wp2_with fail
        ((with_reducible refine (size_any less Hless.out w2).mono ?_); rintro e w3 ⟨rfl, rfl⟩)
        have d6 : decide ((vint less).length ≤ k) = true := decide_eq_true Hmo.out
        go_wp2_with fail
        go_ret
        exact ⟨rfl, HB2.out⟩
    · have d3 : decide ((k : Int) < 10) = false := decide_eq_false (by omega)
      have d4 : decide ((1 : Int) < (k : Int)) = true := decide_eq_true (by omega)
      have e3 := e2 (by omega)
      clear e2
      go_wp2_with fail
      ((with_reducible refine (size_any less Hless.out w2).mono ?_); rintro e w3 ⟨rfl, rfl⟩)
      have d6 : decide ((vint less).length ≤ k) = true := decide_eq_true Hmo.out
      go_wp2_with fail
      go_ret
      exact ⟨rfl, HB2.out⟩
/-- A number of 64 bits. -/
theorem nat_of_u64 {a : Int} (h : (Lit.int .u64 a).wf = true) : ∃ n : Nat, a = (n : Int) ∧ n < 18446744073709551616 := by
  simp [Lit.wf, IntKind.min, IntKind.max, IntKind.bits, IntKind.signed] at h
  exact ⟨a.toNat, by omega, by omega⟩
theorem int_of_i64 {a : Int} (h : (Lit.int .i64 a).wf = true) : -9223372036854775808 ≤ a ∧ a ≤ 9223372036854775807 := by
  simp [Lit.wf, IntKind.min, IntKind.max, IntKind.bits, IntKind.signed] at h
  omega
theorem numSizes_walk (a0 a1 : Int) (w : World) (w0 : (Lit.int .u64 a0).wf = true) (w1 : (Lit.int .u64 a1).wf = true) :
    Calls Try.prog 6 #[.int .u64 a0, .int .u64 a1] w fun e w' => e = .returned (.bool true) ∧ Below w.heap.size w w' := by
  obtain ⟨n, rfl, hn⟩ := nat_of_u64 w0
  obtain ⟨m, rfl, hm⟩ := nat_of_u64 w1
  exact numSizes_any n m w hn hm
end Go.Proofs.Ytahjpeihekphcaa.N
