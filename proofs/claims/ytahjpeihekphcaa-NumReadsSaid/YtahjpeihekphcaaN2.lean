/- What Int, Text and Bool of layer 1 compute. -/
import Derived.Test.YtahjpeihekphcaaN1
set_option linter.unusedVariables false
set_option linter.unusedSimpArgs false
namespace Go.Proofs.Ytahjpeihekphcaa.N
open Go.RowKit Go.Proofs.YtahjpeihekphcaaW.PrintWords Go.Proofs.YtahjpeihekphcaaW.PrintLast Go.Proofs.Ytahjpeihekphcaa.Bt Go.Proofs.Ytahjpeihekphcaa.B Go.Proofs.Ytahjpeihekphcaa.Vi

/-- A number with a sign, as a number. -/
def zig (k : Int) : Nat := if 0 ≤ k then (2 * k).toNat else (-2 * k - 1).toNat
theorem zig_lt {k : Int} (h0 : -9223372036854775808 ≤ k) (h1 : k ≤ 9223372036854775807) : zig k < 18446744073709551616 := by
  unfold zig
  split <;> omega
theorem u64_wrap (n : Int) : IntKind.u64.wrap n = n % 18446744073709551616 := by simp [IntKind.wrap, IntKind.bits, IntKind.signed]
theorem xor_all {a : Nat} (h : a < 18446744073709551616) : a ^^^ 18446744073709551615 = 18446744073709551615 - a := by
  refine Nat.eq_of_testBit_eq fun i => ?_
  have e : (18446744073709551615 : Nat) - a = 2 ^ 64 - (a + 1) := by omega
  have hF : (18446744073709551615 : Nat) = 2 ^ 64 - 1 := by decide
  rw [Nat.testBit_xor, e, Nat.testBit_two_pow_sub_succ h, hF, Nat.testBit_two_pow_sub_one]
  by_cases hi : i < 64
  · simp [hi]
  · have : a.testBit i = false := Nat.testBit_lt_two_pow (Nat.lt_of_lt_of_le h (by
      have : 2 ^ 64 ≤ 2 ^ i := Nat.pow_le_pow_right (by decide) (by omega)
      simpa using this))
    simp [hi, this]
theorem zig_eq {k : Int} (h0 : -9223372036854775808 ≤ k) (h1 : k ≤ 9223372036854775807) :
    Go.bits .xor .u64 (IntKind.u64.wrap ((IntKind.u64.wrap k) * 2)) (IntKind.u64.wrap (k / 9223372036854775808)) = ((zig k : Nat) : Int) := by
  rw [u64_wrap, u64_wrap, u64_wrap]
  unfold zig
  by_cases h : 0 ≤ k
  · rw [if_pos h]
    have e1 : (k % 18446744073709551616 * 2 % 18446744073709551616) = (((2 * k).toNat : Nat) : Int) := by omega
    have e2 : (k / 9223372036854775808 % 18446744073709551616) = ((0 : Nat) : Int) := by omega
    rw [e1, e2, xor64 (by omega) (by decide), Nat.xor_zero]
  · rw [if_neg h]
    have e1 : (k % 18446744073709551616 * 2 % 18446744073709551616) = (((2 * k + 18446744073709551616).toNat : Nat) : Int) := by omega
    have e2 : (k / 9223372036854775808 % 18446744073709551616) = ((18446744073709551615 : Nat) : Int) := by omega
    rw [e1, e2, xor64 (by omega) (by decide), xor_all (by omega)]
    omega
theorem uint_at {base : Nat} {v : Value} {l : List UInt8} {x : Int} (n : Nat) {w : World} (hx : x = (n : Int)) (hO : Own w base 5 v (cs l)) (hbase : base ≤ w.heap.size) (hl : l.length ≤ 4611686018427) (hn : n < 18446744073709551616) :
    Calls Try.prog 22 #[v, .int .u64 x] w fun e w' => ∃ v', e = .returned v' ∧ Own w' base 5 v' (cs (l ++ vint n)) ∧ w.grownBy w' v.ownBlock ∧ Near w v v' := by
  subst hx
  exact uint_any base v l n w hO hbase hl hn
set_option maxHeartbeats 400000 in
theorem int_any (base : Nat) (v : Value) (l : List UInt8) (k : Int) (w : World) (hO : Own w base 5 v (cs l)) (hbase : base ≤ w.heap.size) (hl : l.length ≤ 4611686018427) (h0 : -9223372036854775808 ≤ k) (h1 : k ≤ 9223372036854775807) :
    Calls Try.prog 28 #[v, .int .i64 k] w fun e w' => ∃ v', e = .returned v' ∧ Own w' base 5 v' (cs (l ++ vint (zig k))) ∧ w.grownBy w' v.ownBlock ∧ Near w v v' := by
  have hO' := Aside0.mk hO
  have hbs := Aside0.mk hbase
  have hll := Aside0.mk hl
  have hz := Aside0.mk (zig_eq h0 h1)
  have hzl := Aside0.mk (zig_lt h0 h1)
  clear hO hbase hl h0 h1
  obtain ⟨A, c, rfl, -, -⟩ := hO'.out.shape
  go_enter Try.func28, Try.ntmps28
  go_wp2_with fail
  refine (uint_at (zig k) hz.out hO'.out hbs.out hll.out hzl.out).mono ?_
  rintro e w' ⟨v', rfl, h2, h3, h4⟩
  have H2 := Aside0.mk h2
  have H3 := Aside0.mk h3
  have H4 := Aside0.mk h4
  clear h2 h3 h4
  go_wp2
  go_ret
  exact ⟨v', rfl, H2.out, H3.out, H4.out⟩
set_option maxHeartbeats 400000 in
theorem text_any (base : Nat) (v : Value) (l : List UInt8) (s : ByteArray) (w : World) (hO : Own w base 5 v (cs l)) (hbase : base ≤ w.heap.size) (hl : l.length ≤ 4611686018427) (hs : s.size ≤ 4611686018427) :
    Calls Try.prog 31 #[v, .string s] w fun e w' => ∃ v', e = .returned v' ∧ Own w' base 5 v' (cs (l ++ (vint s.size ++ s.data.toList))) ∧ w.grownBy w' v.ownBlock ∧ Near w v v' := by
  have hO' := Aside0.mk hO
  have hbs := Aside0.mk hbase
  have hll := Aside0.mk hl
  clear hO hbase hl
  obtain ⟨A, c, rfl, -, -⟩ := hO'.out.shape
  go_enter Try.func31, Try.ntmps31
  go_wp2_with fail
  refine (uint_at s.size (by first | rfl | (rw [u64_wrap]; omega)) hO'.out hbs.out hll.out (by omega)).mono ?_
  rintro e w' ⟨v', rfl, h2, h3, h4⟩
  have H2 := Aside0.mk h2
  have H3 := Aside0.mk h3
  have H4 := Aside0.mk h4
  have hlen : Aside0 ((l ++ vint s.size).length + s.size ≤ 140737488355328) := ⟨by
    have := vint_le10 (n := s.size) (by omega)
    have := hll.out
    rw [List.length_append]
    omega⟩
  clear h2 h3 h4
  obtain ⟨A2, c2, rfl, -, -⟩ := H2.out.shape
  go_wp2_with (at_builtin; refine wpList_append_s base rfl (.tmp 9) (.tmp 10) 27 9 5 rfl Try.underlying27 Try.underlying9 info8 _ _ rfl H2.out s rfl hlen.out (Nat.le_trans hbs.out H3.out.size) ?_)
  intro v3 w3 hown hgr hat
  go_wp2
  go_ret
  exact ⟨v3, rfl, hown, grown_then H3.out hgr H4.out, H4.out.trans (Near.of_at (w0 := w') hat (Nat.le_refl _)) H3.out.size⟩
set_option maxHeartbeats 400000 in
theorem bool_any (base : Nat) (v : Value) (l : List UInt8) (is : Bool) (w : World) (hO : Own w base 5 v (cs l)) (hbase : base ≤ w.heap.size) (hl : l.length ≤ 4611686018427) :
    Calls Try.prog 33 #[v, .bool is] w fun e w' => ∃ v', e = .returned v' ∧ Own w' base 5 v' (cs (l ++ vint (if is then 1 else 0))) ∧ w.grownBy w' v.ownBlock ∧ Near w v v' := by
  have hO' := Aside0.mk hO
  have hbs := Aside0.mk hbase
  have hll := Aside0.mk hl
  clear hO hbase hl
  obtain ⟨A, c, rfl, -, -⟩ := hO'.out.shape
  cases is with
  | true =>
    go_enter Try.func33, Try.ntmps33
    go_wp2_with (at_builtin; refine wpList_append_b base rfl (.tmp 6) (.tmp 7) 27 5 (.int .u8 0) 1 rfl Try.underlying27 info8 rfl (by decide) (.slice A (cs l).length c) (cs l) rfl (hO'.out.alloc _) (some ⟨w.heap.size, 0, none⟩) 1 1 (cs [1]) rfl rfl (news_row w _ _) (fun h => by cases h) (cs_one _) (by have := hll.out; rw [cs_length]; omega) (by have := hbs.out; simp; omega) ?_)
    intro v3 w3 hown hgr hat
    go_wp2
    go_ret
    refine ⟨v3, rfl, ?_, grown_then (grown_alloc (grown_refl _ _) _) hgr (Near.refl _ _), Near.of_at hat (by omega)⟩
    rw [vint_small (by decide), cs_append]
    exact hown
  | false =>
    go_enter Try.func33, Try.ntmps33
    go_wp2_with (at_builtin; refine wpList_append_b base rfl (.tmp 9) (.tmp 10) 27 5 (.int .u8 0) 1 rfl Try.underlying27 info8 rfl (by decide) (.slice A (cs l).length c) (cs l) rfl (hO'.out.alloc _) (some ⟨w.heap.size, 0, none⟩) 1 1 (cs [0]) rfl rfl (news_row w _ _) (fun h => by cases h) (cs_one _) (by have := hll.out; rw [cs_length]; omega) (by have := hbs.out; simp; omega) ?_)
    intro v3 w3 hown hgr hat
    go_wp2
    go_ret
    refine ⟨v3, rfl, ?_, grown_then (grown_alloc (grown_refl _ _) _) hgr (Near.refl _ _), Near.of_at hat (by omega)⟩
    rw [vint_small (by decide), cs_append]
    exact hown
end Go.Proofs.Ytahjpeihekphcaa.N
