/- What Int, Text and Bool of layer 1 compute. -/
import Derived.Test.YtfejjfbhlmjkeaaNB1
set_option linter.unusedVariables false
set_option linter.unusedSimpArgs false
namespace Go.Proofs.Ytfejjfbhlmjkeaa.N
open Go.RowKit Go.Proofs.YtfejjfbhlmjkeaaW.PrintWords Go.Proofs.YtfejjfbhlmjkeaaW.PrintLast Go.Proofs.Ytfejjfbhlmjkeaa.Bt Go.Proofs.Ytfejjfbhlmjkeaa.B Go.Proofs.Ytfejjfbhlmjkeaa.Vi

/-- A number with a sign, as a number. -/
def zig (k : Int) : Nat := if 0 ≤ k then (2 * k).toNat else (-2 * k - 1).toNat
theorem zig_lt {k : Int} (h0 : -9223372036854775808 ≤ k) (h1 : k ≤ 9223372036854775807) : zig k < 18446744073709551616 := by
  unfold zig
  split <;> omega
theorem u64_wrap (n : Int) : IntKind.u64.wrap n = n % 18446744073709551616 := by simp [IntKind.wrap, IntKind.bits, IntKind.signed]
theorem xor_all {a : Nat} (h : a < 18446744073709551616) : a ^^^ 18446744073709551615 = 18446744073709551615 - a := by
  refine Nat.eq_of_testBit_eq fun i => ?_
  have e : (18446744073709551615 : Nat) - a = 2 ^ 64 - (a + 1) := by omega
  have hF : (18446744073709551615 : Nat) = 2 ^ 64 - 1 := by decide
  rw [Nat.testBit_xor, e, Nat.testBit_two_pow_sub_succ h, hF, Nat.testBit_two_pow_sub_one]
  by_cases hi : i < 64
  · simp [hi]
  · have : a.testBit i = false := Nat.testBit_lt_two_pow (Nat.lt_of_lt_of_le h (by
      have : 2 ^ 64 ≤ 2 ^ i := Nat.pow_le_pow_right (by decide) (by omega)
      simpa using this))
    simp [hi, this]
theorem zig_eq {k : Int} (h0 : -9223372036854775808 ≤ k) (h1 : k ≤ 9223372036854775807) :
    Go.bits .xor .u64 (IntKind.u64.wrap ((IntKind.u64.wrap k) * 2)) (IntKind.u64.wrap (k / 9223372036854775808)) = ((zig k : Nat) : Int) := by
  rw [u64_wrap, u64_wrap, u64_wrap]
  unfold zig
  by_cases h : 0 ≤ k
  · rw [if_pos h]
    have e1 : (k % 18446744073709551616 * 2 % 18446744073709551616) = (((2 * k).toNat : Nat) : Int) := by omega
    have e2 : (k / 9223372036854775808 % 18446744073709551616) = ((0 : Nat) : Int) := by omega
    rw [e1, e2, xor64 (by omega) (by decide), Nat.xor_zero]
  · rw [if_neg h]
    have e1 : (k % 18446744073709551616 * 2 % 18446744073709551616) = (((2 * k + 18446744073709551616).toNat : Nat) : Int) := by omega
    have e2 : (k / 9223372036854775808 % 18446744073709551616) = ((18446744073709551615 : Nat) : Int) := by omega
    rw [e1, e2, xor64 (by omega) (by decide), xor_all (by omega)]
    omega
theorem uint_at {base : Nat} {v : Value} {l : List UInt8} {x : Int} (n : Nat) {w : World} (hx : x = (n : Int)) (hO : Own w base 5 v (cs l)) (hbase : base ≤ w.heap.size) (hl : l.length ≤ 4611686018427) (hn : n < 18446744073709551616) :
    Calls Try.prog 81 #[v, .int .u64 x] w fun e w' => ∃ v', e = .returned v' ∧ Own w' base 5 v' (cs (l ++ vint n)) ∧ w.grownBy w' v.ownBlock ∧ Near w v v' := by
  subst hx
  exact uint_any base v l n w hO hbase hl hn
set_option maxHeartbeats 400000 in
theorem int_any (base : Nat) (v : Value) (l : List UInt8) (k : Int) (w : World) (hO : Own w base 5 v (cs l)) (hbase : base ≤ w.heap.size) (hl : l.length ≤ 4611686018427) (h0 : -9223372036854775808 ≤ k) (h1 : k ≤ 9223372036854775807) :
    Calls Try.prog 66 #[v, .int .i64 k] w fun e w' => ∃ v', e = .returned v' ∧ Own w' base 5 v' (cs (l ++ vint (zig k))) ∧ w.grownBy w' v.ownBlock ∧ Near w v v' := by
  have hO' := Aside0.mk hO
  have hbs := Aside0.mk hbase
  have hll := Aside0.mk hl
  have hz := Aside0.mk (zig_eq h0 h1)
  have hzl := Aside0.mk (zig_lt h0 h1)
  clear hO hbase hl h0 h1
  obtain ⟨A, c, rfl, -, -⟩ := hO'.out.shape
  go_enter Try.func66, Try.ntmps66
  go_wp2_with fail
  refine (uint_at (zig k) hz.out hO'.out hbs.out hll.out hzl.out).mono ?_
  rintro e w' ⟨v', rfl, h2, h3, h4⟩
  have H2 := Aside0.mk h2
  have H3 := Aside0.mk h3
  have H4 := Aside0.mk h4
  clear h2 h3 h4
  go_wp2
  go_ret
  exact ⟨v', rfl, H2.out, H3.out, H4.out⟩
set_option maxHeartbeats 400000 in
theorem text_any (base : Nat) (v : Value) (l : List UInt8) (s : ByteArray) (w : World) (hO : Own w base 5 v (cs l)) (hbase : base ≤ w.heap.size) (hl : l.length ≤ 4611686018427) (hs : s.size ≤ 4611686018427) :
    Calls Try.prog 65 #[v, .string s] w fun e w' => ∃ v', e = .returned v' ∧ Own w' base 5 v' (cs (l ++ (vint s.size ++ s.data.toList))) ∧ w.grownBy w' v.ownBlock ∧ Near w v v' := by
  have hO' := Aside0.mk hO
  have hbs := Aside0.mk hbase
  have hll := Aside0.mk hl
  clear hO hbase hl
  obtain ⟨A, c, rfl, -, -⟩ := hO'.out.shape
  go_enter Try.func65, Try.ntmps65
  go_wp2_with fail
  refine (uint_at s.size (by first | rfl | (rw [u64_wrap]; omega)) hO'.out hbs.out hll.out (by omega)).mono ?_
  rintro e w' ⟨v', rfl, h2, h3, h4⟩
  have H2 := Aside0.mk h2
  have H3 := Aside0.mk h3
  have H4 := Aside0.mk h4
  have hlen : Aside0 ((l ++ vint s.size).length + s.size ≤ 140737488355328) := ⟨by
    have := vint_le10 (n := s.size) (by omega)
    have := hll.out
    rw [List.length_append]
    omega⟩
  clear h2 h3 h4
  obtain ⟨A2, c2, rfl, -, -⟩ := H2.out.shape
  go_wp2_with (at_builtin; refine wpList_append_s base rfl (.tmp 9) (.tmp 10) 52 9 5 rfl Try.underlying52 Try.underlying9 info8 _ _ rfl H2.out s rfl hlen.out (Nat.le_trans hbs.out H3.out.size) ?_)
  intro v3 w3 hown hgr hat
  go_wp2
  go_ret
  exact ⟨v3, rfl, hown, grown_then H3.out hgr H4.out, H4.out.trans (Near.of_at (w0 := w') hat (Nat.le_refl _)) H3.out.size⟩
end Go.Proofs.Ytfejjfbhlmjkeaa.N
