/- A reader's methods as functions of its state. -/
import Derived.Test.YtahjpeihekphcaaN4
set_option linter.unusedVariables false
set_option linter.unusedSimpArgs false
namespace Go.Proofs.Ytahjpeihekphcaa.N
open Go.RowKit Go.Proofs.YtahjpeihekphcaaW.PrintWords Go.Proofs.YtahjpeihekphcaaW.PrintLast Go.Proofs.Ytahjpeihekphcaa.Bt Go.Proofs.Ytahjpeihekphcaa.B Go.Proofs.Ytahjpeihekphcaa.Vi

theorem ret_bool {a b : Bool} (h : a = b) : Ending.returned (.bool a) = .returned (.bool b) := by rw [h]
/-- Whether there is a next number, up to one. -/
def Has (most : Nat) (st : Option (List UInt8)) : Prop := ∃ p : Nat × List UInt8, st = some (vint p.1 ++ p.2) ∧ p.1 < 18446744073709551616 ∧ p.1 ≤ most
open Classical in
/-- The next number, up to one, and the state behind it. -/
noncomputable def nxt (most : Nat) (st : Option (List UInt8)) : Nat × Option (List UInt8) := if h : Has most st then (h.choose.1, some h.choose.2) else (0, none)
theorem nxt_yes {most n : Nat} {r : List UInt8} (h64 : n < 18446744073709551616) (hm : n ≤ most) : nxt most (some (vint n ++ r)) = (n, some r) := by
  have h : Has most (some (vint n ++ r)) := ⟨(n, r), rfl, h64, hm⟩
  unfold nxt
  rw [dif_pos h]
  have hs := h.choose_spec.1
  injection hs with hs
  obtain ⟨e1, e2⟩ := vint_inj hs
  rw [← e1, ← e2]
theorem nxt_no {most : Nat} {l : List UInt8} (h : ∀ n r, l = vint n ++ r → n < 18446744073709551616 → most < n) : nxt most (some l) = (0, none) := by
  unfold nxt
  rw [dif_neg]
  rintro ⟨⟨n, r⟩, he, h1, h2⟩
  injection he with he
  have := h n r he h1
  simp only at h2
  omega
theorem nxt_none (most : Nat) : nxt most none = (0, none) := by
  unfold nxt
  rw [dif_neg]
  rintro ⟨_, he, _⟩
  cases he
theorem nxt_lt (most : Nat) (st : Option (List UInt8)) : (nxt most st).1 < 18446744073709551616 ∧ (nxt most st).1 ≤ most := by
  unfold nxt
  split
  · rename_i h
    exact h.choose_spec.2
  · exact ⟨by decide, Nat.zero_le _⟩
theorem nxt_len (most : Nat) (l r : List UInt8) (h : (nxt most (some l)).2 = some r) : r.length ≤ l.length := by
  by_cases hh : Has most (some l)
  · obtain ⟨⟨n, q⟩, he, h1, h2⟩ := hh
    rw [he, nxt_yes h1 h2] at h
    injection he with he
    injection h with h
    rw [he, ← h, List.length_append]
    omega
  · unfold nxt at h
    rw [dif_neg hh] at h
    cases h
/-- A number with a sign, out of a number. -/
def unzig (n : Nat) : Int := if n % 2 = 0 then ((n / 2 : Nat) : Int) else -((n / 2 : Nat) : Int) - 1
theorem unzig_zig {k : Int} : unzig (zig k) = k := by
  unfold unzig zig
  by_cases h : 0 ≤ k
  · rw [if_pos h, if_pos (by omega)]
    omega
  · rw [if_neg h, if_neg (by omega)]
    omega
theorem xor_i64 {n : Nat} (hn : n < 18446744073709551616) : Go.bits .xor .i64 (((n / 2 : Nat)) : Int) (-((n % 2 : Nat) : Int)) = unzig n := by
  unfold unzig
  have e0 : BitVec.ofInt 64 ((n / 2 : Nat) : Int) = BitVec.ofNat 64 (n / 2) := BitVec.ofInt_natCast ..
  rcases Nat.mod_two_eq_zero_or_one n with h | h
  · rw [if_pos h, h]
    change IntKind.i64.wrap (((BitVec.ofInt 64 ((n / 2 : Nat) : Int)) ^^^ (0#64)).toNat : Int) = _
    have e2 : ((BitVec.ofInt 64 ((n / 2 : Nat) : Int)) ^^^ (0#64)).toNat = n / 2 := by
      rw [e0, BitVec.xor_zero, BitVec.toNat_ofNat]
      omega
    rw [e2, IntKind.wrap_i64]
    omega
  · rw [if_neg (by omega), h]
    change IntKind.i64.wrap (((BitVec.ofInt 64 ((n / 2 : Nat) : Int)) ^^^ (BitVec.allOnes 64)).toNat : Int) = _
    have e2 : ((BitVec.ofInt 64 ((n / 2 : Nat) : Int)) ^^^ (BitVec.allOnes 64)).toNat = 18446744073709551615 - n / 2 := by
      rw [e0, BitVec.xor_allOnes, BitVec.toNat_not, BitVec.toNat_ofNat]
      omega
    rw [e2, IntKind.wrap_i64]
    omega
theorem and64_1 {a : Nat} (ha : a < 18446744073709551616) : Go.bits .and .u64 (a : Int) 1 = ((a % 2 : Nat) : Int) := by
  have h := (bits_nat .u64 64 (by decide) wraps_u64 a 1 ha (by decide)).1
  have e : a &&& 1 = a % 2 := Nat.and_two_pow_sub_one_eq_mod a 1
  rw [e] at h
  exact h
theorem int_val {n : Nat} (hn : n < 18446744073709551616) : Go.bits .xor .i64 (wrap64 ((n : Int) / 2)) (wrap64 (-wrap64 (Go.bits .and .u64 (n : Int) 1))) = unzig n := by
  rw [and64_1 hn]
  have e1 : wrap64 ((n : Int) / 2) = ((n / 2 : Nat) : Int) := by unfold wrap64; omega
  have e2 : wrap64 (-wrap64 ((n % 2 : Nat) : Int)) = -((n % 2 : Nat) : Int) := by unfold wrap64; omega
  rw [e1, e2, xor_i64 hn]

/-- Uint, as a function of the state. -/
theorem ru (g b : Nat) (st : Option (List UInt8)) (most : Nat) (w : World) (hm : most < 18446744073709551616) (h : RS w g b st) :
    Calls Try.prog 24 #[.pointer (some ⟨g, 0, none⟩), .int .u64 (most : Int)] w fun e w' => e = .returned (.int .u64 ((nxt most st).1 : Int)) ∧ RS w' g b (nxt most st).2 ∧ w.grownBy w' (some g) := by
  cases st with
  | none =>
    refine (ruint_bad g b most w h).mono ?_
    rintro e w' ⟨rfl, h1, h2⟩
    rw [nxt_none]
    exact ⟨rfl, h1, h2⟩
  | some l =>
    refine (ruint_any g b l most w hm h).mono ?_
    rintro e w' (⟨n, r, rfl, h1, h2, rfl, h3, h4⟩ | ⟨hno, rfl, h3, h4⟩)
    · rw [nxt_yes h1 h2]
      exact ⟨rfl, h3, h4⟩
    · rw [nxt_no hno]
      exact ⟨rfl, h3, h4⟩
set_option maxHeartbeats 400000 in
/-- Int, as a function of the state. -/
theorem ri (g b : Nat) (st : Option (List UInt8)) (w : World) (h : RS w g b st) :
    Calls Try.prog 25 #[.pointer (some ⟨g, 0, none⟩)] w fun e w' => e = .returned (.int .i64 (unzig (nxt 18446744073709551615 st).1)) ∧ RS w' g b (nxt 18446744073709551615 st).2 ∧ w.grownBy w' (some g) := by
  have hc : Calls Try.prog 24 #[.pointer (some ⟨g, 0, none⟩), .int .u64 18446744073709551615] w fun e w' => e = .returned (.int .u64 ((nxt 18446744073709551615 st).1 : Int)) ∧ RS w' g b (nxt 18446744073709551615 st).2 ∧ w.grownBy w' (some g) :=
    ru g b st 18446744073709551615 w (by decide) h
  have hl := (nxt_lt 18446744073709551615 st).1
  obtain ⟨n, hn⟩ : ∃ n, n = (nxt 18446744073709551615 st).1 := ⟨_, rfl⟩
  rw [← hn] at hc hl ⊢
  have Hn : Aside0 (n < 18446744073709551616) := ⟨hl⟩
  have Hc := Aside0.mk hc
  clear hc hl hn h
  go_enter Try.func25, Try.ntmps25
  go_wp2_with fail
  ((with_reducible refine Hc.out.mono ?_); rintro e w2 ⟨rfl, h2, h3⟩)
  have H2 := Aside0.mk h2
  have H3 := Aside0.mk h3
  clear h2 h3 Hc
  go_wp2
  go_ret
  exact ⟨ret_int (int_val Hn.out), H2.out, H3.out⟩
set_option maxHeartbeats 400000 in
/-- Bool, as a function of the state. -/
theorem rb (g b : Nat) (st : Option (List UInt8)) (w : World) (h : RS w g b st) :
    Calls Try.prog 36 #[.pointer (some ⟨g, 0, none⟩)] w fun e w' => e = .returned (.bool (decide ((nxt 1 st).1 = 1))) ∧ RS w' g b (nxt 1 st).2 ∧ w.grownBy w' (some g) := by
  have hc : Calls Try.prog 24 #[.pointer (some ⟨g, 0, none⟩), .int .u64 1] w fun e w' => e = .returned (.int .u64 ((nxt 1 st).1 : Int)) ∧ RS w' g b (nxt 1 st).2 ∧ w.grownBy w' (some g) :=
    ru g b st 1 w (by decide) h
  obtain ⟨n, hn⟩ : ∃ n, n = (nxt 1 st).1 := ⟨_, rfl⟩
  rw [← hn] at hc ⊢
  have Hc := Aside0.mk hc
  clear hc hn h
  go_enter Try.func36, Try.ntmps36
  go_wp2_with fail
  ((with_reducible refine Hc.out.mono ?_); rintro e w2 ⟨rfl, h2, h3⟩)
  have H2 := Aside0.mk h2
  have H3 := Aside0.mk h3
  clear h2 h3 Hc
  go_wp2
  go_ret
  refine ⟨ret_bool ?_, H2.out, H3.out⟩
  by_cases h : n = 1
  · subst h; rfl
  · rw [decide_eq_false h]
    simpa using (by omega : ¬ (n : Int) = 1)
set_option maxHeartbeats 400000 in
theorem rbad (g b : Nat) (st : Option (List UInt8)) (w : World) (h : RS w g b st) :
    Calls Try.prog 27 #[.pointer (some ⟨g, 0, none⟩)] w fun e w' => e = .returned (.bool st.isNone) ∧ w = w' := by
  cases st with
  | none =>
    have c1 := At.cell1 h
    clear h
    go_enter Try.func27, Try.ntmps27
    go_wp2
    go_ret
    exact ⟨rfl, rfl⟩
  | some l =>
    obtain ⟨off, c, ha, hr⟩ := h
    have c1 := ha.cell1
    clear ha hr
    go_enter Try.func27, Try.ntmps27
    go_wp2
    go_ret
    exact ⟨rfl, rfl⟩
/-- Whether all is read. -/
def isEnd : Option (List UInt8) → Bool
  | some [] => true
  | _ => false
set_option maxHeartbeats 400000 in
theorem rend (g b : Nat) (st : Option (List UInt8)) (w : World) (h : RS w g b st) :
    Calls Try.prog 26 #[.pointer (some ⟨g, 0, none⟩)] w fun e w' => e = .returned (.bool (isEnd st)) ∧ w = w' := by
  cases st with
  | none =>
    have c1 := At.cell1 h
    clear h
    go_enter Try.func26, Try.ntmps26
    go_wp2
    go_ret
    exact ⟨rfl, rfl⟩
  | some l =>
    obtain ⟨off, c, ha, hr⟩ := h
    have c1 := ha.cell1
    have c0 := ha.cell0
    clear ha hr
    cases l with
    | nil =>
      go_enter Try.func26, Try.ntmps26
      go_wp2
      go_ret
      exact ⟨rfl, rfl⟩
    | cons x l =>
      go_enter Try.func26, Try.ntmps26
      go_wp2
      go_ret
      refine ⟨ret_bool ?_, rfl⟩
      simpa [isEnd] using (by omega : ¬ (l.length : Int) + 1 = 0)
end Go.Proofs.Ytahjpeihekphcaa.N
