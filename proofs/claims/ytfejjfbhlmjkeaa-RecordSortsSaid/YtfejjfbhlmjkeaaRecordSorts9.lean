/- Texts of this claim (printed ones, too), put together by a program that left out what the claim does not use. -/
import Derived.Laws.BitsLemmas
import Derived.Lib.ItoaNum
import Derived.OwnWalk
import Derived.LoopTactic
import Derived.WalkKit
import Derived.KernelRfl
import Derived.OpenShut
import Derived.Shelf.AbstractIn
import Derived.Sort.Grow
import Derived.Shelf.SlSortCmp.WholeK
import Derived.Deep.LoopGhost
import Derived.Lib.SliceRun
import Derived.Test.YtfejjfbhlmjkeaaRecordSorts1
import Derived.Test.YtfejjfbhlmjkeaaRecordSorts2
import Derived.Test.YtfejjfbhlmjkeaaRecordSorts3
import Derived.Test.YtfejjfbhlmjkeaaRecordSorts4
import Derived.Test.YtfejjfbhlmjkeaaRecordSorts7
import Derived.Test.YtfejjfbhlmjkeaaRecordSorts5
import Derived.Test.YtfejjfbhlmjkeaaRecordSorts8
section
set_option linter.unusedVariables false
namespace Go.Proofs.Ytfejjfbhlmjkeaa.Bt
open Go.RowKit
theorem bits_xor (k : IntKind) (hk : ∀ n : Int, 0 ≤ n → n < 2 ^ k.bits → k.wrap n = n) (a b : Nat) (ha : a < 2 ^ k.bits) (hb : b < 2 ^ k.bits) : Go.bits .xor k a b = ((a ^^^ b : Nat) : Int) := by
  have ha' : a % 2 ^ k.bits = a := Nat.mod_eq_of_lt ha
  have hb' : b % 2 ^ k.bits = b := Nat.mod_eq_of_lt hb
  simp only [Go.bits, BitVec.ofInt_natCast, BitVec.toNat_xor, BitVec.toNat_ofNat, ha', hb']
  refine hk _ (Int.natCast_nonneg _) ?_
  have := Nat.xor_lt_two_pow ha hb
  exact_mod_cast this
theorem wraps_u64 (n : Int) (h₀ : 0 ≤ n) (h₁ : n < 2 ^ 64) : IntKind.u64.wrap n = n := by
  simp [IntKind.wrap, IntKind.bits, IntKind.signed]
  omega
theorem xor64 {a b : Nat} (ha : a < 18446744073709551616) (hb : b < 18446744073709551616) : Go.bits .xor .u64 a b = ((a ^^^ b : Nat) : Int) := bits_xor .u64 wraps_u64 a b ha hb
end Go.Proofs.Ytfejjfbhlmjkeaa.Bt
set_option linter.unusedVariables false
namespace Go.Proofs.Ytfejjfbhlmjkeaa.Vi
/-- A number's bytes. -/
def vint (n : Nat) : List UInt8 :=
  if h : n < 128 then [UInt8.ofNat n] else UInt8.ofNat (n % 128 + 128) :: vint (n / 128)
termination_by n
decreasing_by omega
theorem vint_small {n : Nat} (h : n < 128) : vint n = [UInt8.ofNat n] := by rw [vint, dif_pos h]
theorem vint_big {n : Nat} (h : ¬ n < 128) : vint n = UInt8.ofNat (n % 128 + 128) :: vint (n / 128) := by rw [vint, dif_neg h]
theorem vint_ne (n : Nat) : vint n ≠ [] := by
  by_cases h : n < 128
  · rw [vint_small h]; simp
  · rw [vint_big h]; simp
theorem vint_pos (n : Nat) : 1 ≤ (vint n).length := by
  have := vint_ne n
  rcases hv : vint n with _ | ⟨a, l⟩
  · exact absurd hv this
  · simp
theorem vint_le (k : Nat) : ∀ n : Nat, (vint n).length ≤ k + 1 ↔ n < 128 ^ (k + 1) := by
  induction k with
  | zero =>
    intro n
    by_cases h : n < 128
    · rw [vint_small h]; simp [h]
    · rw [vint_big h]
      have := vint_pos (n / 128)
      simp [h]
      exact vint_ne _
  | succ k ih =>
    intro n
    by_cases h : n < 128
    · rw [vint_small h]
      have : 128 ^ 1 ≤ 128 ^ (k + 1 + 1) := Nat.pow_le_pow_right (by decide) (by omega)
      simp
      omega
    · rw [vint_big h, List.length_cons]
      have h1 := ih (n / 128)
      have h2 : n / 128 < 128 ^ (k + 1) ↔ n < 128 ^ (k + 1) * 128 := Nat.div_lt_iff_lt_mul (by decide)
      have h3 : 128 ^ (k + 1 + 1) = 128 ^ (k + 1) * 128 := Nat.pow_succ ..
      rw [h3, ← h2, ← h1]
      omega
theorem vint_le10 {n : Nat} (h : n < 18446744073709551616) : (vint n).length ≤ 10 := by
  rw [vint_le 9]
  have : (128 : Nat) ^ (9 + 1) = 1180591620717411303424 := by decide
  omega
/-- What its begin tells. -/
theorem vint_cons_small {c : UInt8} (hc : c.toNat < 128) {n : Nat} {t r : List UInt8} : c :: t = vint n ++ r ↔ n = c.toNat ∧ r = t := by
  constructor
  · intro h
    by_cases hn : n < 128
    · rw [vint_small hn] at h
      simp only [List.singleton_append, List.cons.injEq] at h
      refine ⟨?_, h.2.symm⟩
      rw [h.1, UInt8.toNat_ofNat']
      omega
    · rw [vint_big hn] at h
      simp only [List.cons_append, List.cons.injEq] at h
      have h1 := h.1
      rw [h1, UInt8.toNat_ofNat'] at hc
      omega
  · rintro ⟨rfl, rfl⟩
    rw [vint_small hc]
    simp
theorem vint_cons_big {c : UInt8} (hc : ¬ c.toNat < 128) {n : Nat} {t r : List UInt8} : c :: t = vint n ++ r ↔ ∃ m, n = (c.toNat - 128) + 128 * m ∧ m ≠ 0 ∧ t = vint m ++ r := by
  have hlt : c.toNat < 256 := c.toNat_lt
  constructor
  · intro h
    by_cases hn : n < 128
    · rw [vint_small hn] at h
      simp only [List.singleton_append, List.cons.injEq] at h
      have h1 := h.1
      rw [h1, UInt8.toNat_ofNat'] at hc
      omega
    · rw [vint_big hn] at h
      simp only [List.cons_append, List.cons.injEq] at h
      obtain ⟨h1, h2⟩ := h
      have e : c.toNat = n % 128 + 128 := by rw [h1, UInt8.toNat_ofNat']; omega
      exact ⟨n / 128, by omega, by omega, h2⟩
  · rintro ⟨m, rfl, hm, rfl⟩
    have hn : ¬ (c.toNat - 128 + 128 * m < 128) := by omega
    rw [vint_big hn]
    have e1 : (c.toNat - 128 + 128 * m) / 128 = m := by omega
    have e2 : (c.toNat - 128 + 128 * m) % 128 + 128 = c.toNat := by omega
    rw [e1, e2]
    simp
/-- What is known when i bytes have been gathered to acc. -/
def Got (l : List UInt8) (i acc : Nat) : Prop :=
  i ≤ l.length ∧ acc < 128 ^ i ∧ ∀ n r, l = vint n ++ r ↔ ∃ m, n = acc + 128 ^ i * m ∧ (i = 0 ∨ m ≠ 0) ∧ l.drop i = vint m ++ r
theorem Got.start (l : List UInt8) : Got l 0 0 := by
  refine ⟨Nat.zero_le _, by simp, fun n r => ?_⟩
  simp
theorem Got.more {l : List UInt8} {i acc : Nat} (h : Got l i acc) (hi : i < l.length) (hc : ¬ l[i].toNat < 128) : Got l (i + 1) (acc + 128 ^ i * (l[i].toNat - 128)) := by
  obtain ⟨h1, h2, h3⟩ := h
  have hlt : l[i].toNat < 256 := l[i].toNat_lt
  have hp : 0 < 128 ^ i := Nat.pow_pos (by decide)
  refine ⟨hi, ?_, fun n r => ?_⟩
  · rw [Nat.pow_succ]
    have : 128 ^ i * (l[i].toNat - 128) ≤ 128 ^ i * 127 := Nat.mul_le_mul_left _ (by omega)
    omega
  · rw [h3, List.drop_eq_getElem_cons hi]
    constructor
    · rintro ⟨m, rfl, hm, hd⟩
      obtain ⟨k, rfl, hk, ht⟩ := (vint_cons_big hc).1 hd
      refine ⟨k, ?_, .inr hk, ht⟩
      rw [Nat.mul_add, Nat.pow_succ, Nat.mul_assoc]
      omega
    · rintro ⟨k, rfl, hk, ht⟩
      have hk : k ≠ 0 := by rcases hk with hk | hk <;> omega
      refine ⟨(l[i].toNat - 128) + 128 * k, ?_, .inr (by omega), (vint_cons_big hc).2 ⟨k, rfl, hk, ht⟩⟩
      rw [Nat.mul_add, Nat.pow_succ, Nat.mul_assoc]
      omega
/-- The last byte: what it is a begin of. -/
theorem Got.last {l : List UInt8} {i acc : Nat} (h : Got l i acc) (hi : i < l.length) (hc : l[i].toNat < 128) {n : Nat} {r : List UInt8} :
    l = vint n ++ r ↔ n = acc + 128 ^ i * l[i].toNat ∧ (i = 0 ∨ l[i].toNat ≠ 0) ∧ r = l.drop (i + 1) := by
  rw [h.2.2, List.drop_eq_getElem_cons hi]
  constructor
  · rintro ⟨m, rfl, hm, hd⟩
    obtain ⟨rfl, rfl⟩ := (vint_cons_small hc).1 hd
    exact ⟨rfl, hm, rfl⟩
  · rintro ⟨rfl, hm, rfl⟩
    exact ⟨_, rfl, hm, (vint_cons_small hc).2 ⟨rfl, rfl⟩⟩
/-- The last byte, and the size: whether it is the one way of writing it. -/
theorem Got.size {l : List UInt8} {i acc : Nat} (h : Got l i acc) (hi : i < l.length) (hc : l[i].toNat < 128) : (vint (acc + 128 ^ i * l[i].toNat)).length = i + 1 ↔ (i = 0 ∨ l[i].toNat ≠ 0) := by
  have h2 := h.2.1
  have hp : 0 < 128 ^ i := Nat.pow_pos (by decide)
  have hle : (vint (acc + 128 ^ i * l[i].toNat)).length ≤ i + 1 := by
    rw [vint_le i, Nat.pow_succ]
    have : 128 ^ i * l[i].toNat ≤ 128 ^ i * 127 := Nat.mul_le_mul_left _ (by omega)
    omega
  constructor
  · intro hs
    by_cases h0 : i = 0
    · exact .inl h0
    · right
      intro hz
      rw [hz, Nat.mul_zero, Nat.add_zero] at hs
      have := (vint_le (i - 1) acc).2 (by rw [show i - 1 + 1 = i by omega]; exact h2)
      omega
  · intro hor
    by_cases h0 : i = 0
    · have := vint_pos (acc + 128 ^ i * l[i].toNat)
      omega
    · have hz : l[i].toNat ≠ 0 := by rcases hor with h | h <;> omega
      have hg : ¬ acc + 128 ^ i * l[i].toNat < 128 ^ i := by
        have : 128 ^ i * 1 ≤ 128 ^ i * l[i].toNat := Nat.mul_le_mul_left _ (by omega)
        omega
      have := (not_congr (vint_le (i - 1) (acc + 128 ^ i * l[i].toNat))).2 (by rw [show i - 1 + 1 = i by omega]; exact hg)
      omega
/-- No bytes left: it begins with no number. -/
theorem Got.none {l : List UInt8} {i acc : Nat} (h : Got l i acc) (hi : ¬ i < l.length) (n : Nat) (r : List UInt8) : l ≠ vint n ++ r := by
  intro he
  obtain ⟨m, _, _, hd⟩ := (h.2.2 n r).1 he
  have : l.drop i = [] := by rw [List.drop_eq_nil_iff]; omega
  rw [this] at hd
  have := congrArg List.length hd
  have := vint_pos m
  simp at *
  omega
end Go.Proofs.Ytfejjfbhlmjkeaa.Vi
set_option linter.unusedVariables false
set_option linter.unusedSimpArgs false
namespace Go.Proofs.Ytfejjfbhlmjkeaa.N
open Go.RowKit Go.Proofs.YtfejjfbhlmjkeaaW.PrintWords Go.Proofs.YtfejjfbhlmjkeaaW.PrintLast Go.Proofs.Ytfejjfbhlmjkeaa.Bt Go.Proofs.Ytfejjfbhlmjkeaa.B Go.Proofs.Ytfejjfbhlmjkeaa.Vi
theorem info8 : (Try.prog.info? 5).map (fun i => (i.zero, i.size, i.bytes)) = some (some (.int .u8 0), 1, 1) := by kernel_rfl
theorem or128 : ∀ a : Nat, a < 256 → a ||| 128 = a % 128 + 128 := by decide +kernel
theorem high_cell (n : Nat) : Value.int .u8 (Go.bits .or .u8 ((n : Int) % 256) 128) = bv (UInt8.ofNat (n % 128 + 128)) := by
  have e : ((n : Int) % 256) = ((n % 256 : Nat) : Int) := by omega
  have h := (bits_nat .u8 8 (by decide) (fun m h0 h1 => by rw [IntKind.wrap_u8]; omega) (n % 256) 128 (by omega) (by decide)).2
  have e2 : (128 : Int) = ((128 : Nat) : Int) := rfl
  rw [e, e2, h, or128 _ (by omega)]
  unfold bv
  rw [UInt8.toNat_ofNat']
  congr 1
  omega
theorem low_cell {n : Nat} (h : n < 128) : Value.int .u8 ((n : Int) % 256) = bv (UInt8.ofNat n) := by
  unfold bv
  rw [UInt8.toNat_ofNat']
  congr 1
set_option maxHeartbeats 800000 in
theorem uint_any (base : Nat) (v : Value) (l : List UInt8) (n : Nat) (w : World) (hO : Own w base 5 v (cs l)) (hbase : base ≤ w.heap.size) (hl : l.length ≤ 4611686018427) (hn : n < 18446744073709551616) :
    Calls Try.prog 81 #[v, .int .u64 (n : Int)] w fun e w' => ∃ v', e = .returned v' ∧ Own w' base 5 v' (cs (l ++ vint n)) ∧ w.grownBy w' v.ownBlock ∧ Near w v v' := by
  have hO' := Aside0.mk hO
  have hbs := Aside0.mk hbase
  have hll := Aside0.mk hl
  have hnn := Aside0.mk hn
  clear hO hbase hl hn
  go_enter Try.func81, Try.ntmps81
  go_wp2
  go_loopw [0, 1] (fun t0 t1 wr => ∃ (l' : List UInt8) (m : Nat), t1 = .int .u64 (m : Int) ∧ Aside0 (m < 18446744073709551616) ∧ Aside0 (l ++ vint n = l' ++ vint m) ∧ Aside0 (Own wr base 5 t0 (cs l')) ∧ Aside0 (w.grownBy wr v.ownBlock) ∧ Aside0 (Near w v t0)) (fun _ t1 _ => (intOf t1).toNat)
  case atStart => exact ⟨l, n, rfl, hnn, ⟨rfl⟩, hO', ⟨grown_refl _ _⟩, ⟨Near.refl _ _⟩⟩
  case round =>
    clear hO'
    obtain ⟨l', m, rfl, hm, hlv, HO, HG, HN⟩ := hrel
    have hsz : Aside0 (l'.length ≤ 4611686018437) := ⟨by
      have h1 := congrArg List.length hlv.out
      rw [List.length_append, List.length_append] at h1
      have h2 := vint_le10 hnn.out
      have h3 := hll.out
      omega⟩
    obtain ⟨A, c, rfl, -, -⟩ := HO.out.shape
    have hsw := Aside0.mk HG.out.size
    by_cases hlt : m < 128
    · have hcH := Aside0.mk (low_cell hlt)
      have hltH := Aside0.mk hlt
      have cc : decide ((128 : Int) ≤ (m : Int)) = false := decide_eq_false (by omega)
      clear hlt
      go_wp2_with (at_builtin; refine wpList_append_b base rfl (.tmp 15) (.tmp 18) 52 5 (.int .u8 0) 1 rfl Try.underlying52 info8 rfl (by decide) (.slice A (cs l').length c) (cs l') rfl (HO.out.alloc _) (some ⟨wr.heap.size, 0, none⟩) 1 1 [bv (UInt8.ofNat m)] rfl rfl ?hn1 (fun h => by cases h) (by intro u hu; simp at hu; subst hu; rfl) (by have := hsz.out; rw [cs_length]; omega) (by have := hbs.out; have := hsw.out; simp; omega) ?_)
      case hn1 =>
        rw [← hcH.out]
        exact news_row wr [_] _
      intro v' w' hown hgr hat
      go_wp2
      go_ret
      refine ⟨v', rfl, ?_, grown_then (grown_alloc HG.out _) hgr HN.out, HN.out.trans (Near.of_at (w0 := wr) hat (by omega)) hsw.out⟩
      rw [hlv.out, vint_small hltH.out, cs_append]
      exact hown
    · have hltH := Aside0.mk hlt
      have cc : decide ((128 : Int) ≤ (m : Int)) = true := decide_eq_true (by omega)
      obtain ⟨b, hb⟩ : ∃ b, b = UInt8.ofNat (m % 128 + 128) := ⟨_, rfl⟩
      have hbH := Aside0.mk hb
      clear hlt hb
      go_wp2_with (at_builtin; refine wpList_append_b base rfl (.tmp 7) (.tmp 11) 52 5 (.int .u8 0) 1 rfl Try.underlying52 info8 rfl (by decide) (.slice A (cs l').length c) (cs l') rfl (HO.out.alloc _) (some ⟨wr.heap.size, 0, none⟩) 1 1 [bv b] rfl rfl ?hn2 (fun h => by cases h) (by intro u hu; simp at hu; subst hu; rfl) (by have := hsz.out; rw [cs_length]; omega) (by have := hbs.out; have := hsw.out; simp; omega) ?_)
      case hn2 =>
        rw [hbH.out, ← high_cell]
        exact news_row wr [_] _
      intro v' w' hown hgr hat
      go_wp2
      go_roundw
      case rel =>
        refine ⟨l' ++ [b], m / 128, by go_num, ⟨by have := hm.out; omega⟩, ⟨?_⟩, ⟨?_⟩, ⟨grown_then (grown_alloc HG.out _) hgr HN.out⟩, ⟨HN.out.trans (Near.of_at (w0 := wr) hat (by omega)) hsw.out⟩⟩
        · rw [hlv.out, vint_big hltH.out, hbH.out]
          simp
        · rw [cs_append]
          exact hown
      case measure => have := hltH.out; simp [intOf]; omega
end Go.Proofs.Ytfejjfbhlmjkeaa.N
set_option linter.unusedVariables false
set_option linter.unusedSimpArgs false
namespace Go.Proofs.Ytfejjfbhlmjkeaa.N
open Go.RowKit Go.Proofs.YtfejjfbhlmjkeaaW.PrintWords Go.Proofs.YtfejjfbhlmjkeaaW.PrintLast Go.Proofs.Ytfejjfbhlmjkeaa.Bt Go.Proofs.Ytfejjfbhlmjkeaa.B Go.Proofs.Ytfejjfbhlmjkeaa.Vi
/-- A number with a sign, as a number. -/
def zig (k : Int) : Nat := if 0 ≤ k then (2 * k).toNat else (-2 * k - 1).toNat
theorem zig_lt {k : Int} (h0 : -9223372036854775808 ≤ k) (h1 : k ≤ 9223372036854775807) : zig k < 18446744073709551616 := by
  unfold zig
  split <;> omega
theorem u64_wrap (n : Int) : IntKind.u64.wrap n = n % 18446744073709551616 := by simp [IntKind.wrap, IntKind.bits, IntKind.signed]
theorem xor_all {a : Nat} (h : a < 18446744073709551616) : a ^^^ 18446744073709551615 = 18446744073709551615 - a := by
  refine Nat.eq_of_testBit_eq fun i => ?_
  have e : (18446744073709551615 : Nat) - a = 2 ^ 64 - (a + 1) := by omega
  have hF : (18446744073709551615 : Nat) = 2 ^ 64 - 1 := by decide
  rw [Nat.testBit_xor, e, Nat.testBit_two_pow_sub_succ h, hF, Nat.testBit_two_pow_sub_one]
  by_cases hi : i < 64
  · simp [hi]
  · have : a.testBit i = false := Nat.testBit_lt_two_pow (Nat.lt_of_lt_of_le h (by
      have : 2 ^ 64 ≤ 2 ^ i := Nat.pow_le_pow_right (by decide) (by omega)
      simpa using this))
    simp [hi, this]
theorem zig_eq {k : Int} (h0 : -9223372036854775808 ≤ k) (h1 : k ≤ 9223372036854775807) :
    Go.bits .xor .u64 (IntKind.u64.wrap ((IntKind.u64.wrap k) * 2)) (IntKind.u64.wrap (k / 9223372036854775808)) = ((zig k : Nat) : Int) := by
  rw [u64_wrap, u64_wrap, u64_wrap]
  unfold zig
  by_cases h : 0 ≤ k
  · rw [if_pos h]
    have e1 : (k % 18446744073709551616 * 2 % 18446744073709551616) = (((2 * k).toNat : Nat) : Int) := by omega
    have e2 : (k / 9223372036854775808 % 18446744073709551616) = ((0 : Nat) : Int) := by omega
    rw [e1, e2, xor64 (by omega) (by decide), Nat.xor_zero]
  · rw [if_neg h]
    have e1 : (k % 18446744073709551616 * 2 % 18446744073709551616) = (((2 * k + 18446744073709551616).toNat : Nat) : Int) := by omega
    have e2 : (k / 9223372036854775808 % 18446744073709551616) = ((18446744073709551615 : Nat) : Int) := by omega
    rw [e1, e2, xor64 (by omega) (by decide), xor_all (by omega)]
    omega
theorem uint_at {base : Nat} {v : Value} {l : List UInt8} {x : Int} (n : Nat) {w : World} (hx : x = (n : Int)) (hO : Own w base 5 v (cs l)) (hbase : base ≤ w.heap.size) (hl : l.length ≤ 4611686018427) (hn : n < 18446744073709551616) :
    Calls Try.prog 81 #[v, .int .u64 x] w fun e w' => ∃ v', e = .returned v' ∧ Own w' base 5 v' (cs (l ++ vint n)) ∧ w.grownBy w' v.ownBlock ∧ Near w v v' := by
  subst hx
  exact uint_any base v l n w hO hbase hl hn
set_option maxHeartbeats 400000 in
theorem int_any (base : Nat) (v : Value) (l : List UInt8) (k : Int) (w : World) (hO : Own w base 5 v (cs l)) (hbase : base ≤ w.heap.size) (hl : l.length ≤ 4611686018427) (h0 : -9223372036854775808 ≤ k) (h1 : k ≤ 9223372036854775807) :
    Calls Try.prog 66 #[v, .int .i64 k] w fun e w' => ∃ v', e = .returned v' ∧ Own w' base 5 v' (cs (l ++ vint (zig k))) ∧ w.grownBy w' v.ownBlock ∧ Near w v v' := by
  have hO' := Aside0.mk hO
  have hbs := Aside0.mk hbase
  have hll := Aside0.mk hl
  have hz := Aside0.mk (zig_eq h0 h1)
  have hzl := Aside0.mk (zig_lt h0 h1)
  clear hO hbase hl h0 h1
  obtain ⟨A, c, rfl, -, -⟩ := hO'.out.shape
  go_enter Try.func66, Try.ntmps66
  go_wp2_with fail
  refine (uint_at (zig k) hz.out hO'.out hbs.out hll.out hzl.out).mono ?_
  rintro e w' ⟨v', rfl, h2, h3, h4⟩
  have H2 := Aside0.mk h2
  have H3 := Aside0.mk h3
  have H4 := Aside0.mk h4
  clear h2 h3 h4
  go_wp2
  go_ret
  exact ⟨v', rfl, H2.out, H3.out, H4.out⟩
set_option maxHeartbeats 400000 in
theorem text_any (base : Nat) (v : Value) (l : List UInt8) (s : ByteArray) (w : World) (hO : Own w base 5 v (cs l)) (hbase : base ≤ w.heap.size) (hl : l.length ≤ 4611686018427) (hs : s.size ≤ 4611686018427) :
    Calls Try.prog 65 #[v, .string s] w fun e w' => ∃ v', e = .returned v' ∧ Own w' base 5 v' (cs (l ++ (vint s.size ++ s.data.toList))) ∧ w.grownBy w' v.ownBlock ∧ Near w v v' := by
  have hO' := Aside0.mk hO
  have hbs := Aside0.mk hbase
  have hll := Aside0.mk hl
  clear hO hbase hl
  obtain ⟨A, c, rfl, -, -⟩ := hO'.out.shape
  go_enter Try.func65, Try.ntmps65
  go_wp2_with fail
  refine (uint_at s.size (by first | rfl | (rw [u64_wrap]; omega)) hO'.out hbs.out hll.out (by omega)).mono ?_
  rintro e w' ⟨v', rfl, h2, h3, h4⟩
  have H2 := Aside0.mk h2
  have H3 := Aside0.mk h3
  have H4 := Aside0.mk h4
  have hlen : Aside0 ((l ++ vint s.size).length + s.size ≤ 140737488355328) := ⟨by
    have := vint_le10 (n := s.size) (by omega)
    have := hll.out
    rw [List.length_append]
    omega⟩
  clear h2 h3 h4
  obtain ⟨A2, c2, rfl, -, -⟩ := H2.out.shape
  go_wp2_with (at_builtin; refine wpList_append_s base rfl (.tmp 9) (.tmp 10) 52 9 5 rfl Try.underlying52 Try.underlying9 info8 _ _ rfl H2.out s rfl hlen.out (Nat.le_trans hbs.out H3.out.size) ?_)
  intro v3 w3 hown hgr hat
  go_wp2
  go_ret
  exact ⟨v3, rfl, hown, grown_then H3.out hgr H4.out, H4.out.trans (Near.of_at (w0 := w') hat (Nat.le_refl _)) H3.out.size⟩
end Go.Proofs.Ytfejjfbhlmjkeaa.N
set_option linter.unusedVariables false
set_option linter.unusedSimpArgs false
namespace Go.Proofs.Ytfejjfbhlmjkeaa.CQ
open Go.RowKit
structure Cmp {α : Type} (c : α → α → Int) : Prop where
  anti : ∀ x y, c y x = - c x y
  tri : ∀ x y, c x y = -1 ∨ c x y = 0 ∨ c x y = 1
  eq0 : ∀ x y, c x y = 0 ↔ x = y
  trans : ∀ x y z, c x y = -1 → c y z = -1 → c x z = -1
theorem Cmp.turned {α : Type} {c : α → α → Int} (h : Cmp c) : Cmp (fun x y => c y x) where
  anti x y := h.anti y x
  tri x y := h.tri y x
  eq0 x y := (h.eq0 y x).trans eq_comm
  trans x y z h1 h2 := h.trans z y x h2 h1
theorem Cmp.lex {α β γ : Type} {c : α → α → Int} {d : β → β → Int} (h : Cmp c) (k : Cmp d) (f : γ → α) (g : γ → β) (inj : ∀ x y, f x = f y → g x = g y → x = y) :
    Cmp (fun x y => if c (f x) (f y) = 0 then d (g x) (g y) else c (f x) (f y)) where
  anti x y := by
    have e := h.anti (f x) (f y)
    have e2 := k.anti (g x) (g y)
    by_cases h0 : c (f x) (f y) = 0
    · rw [if_pos h0, if_pos (by omega), e2]
    · rw [if_neg h0, if_neg (by omega), e]
  tri x y := by
    split
    · exact k.tri _ _
    · exact h.tri _ _
  eq0 x y := by
    constructor
    · intro e
      by_cases h0 : c (f x) (f y) = 0
      · rw [if_pos h0] at e
        exact inj x y ((h.eq0 _ _).1 h0) ((k.eq0 _ _).1 e)
      · rw [if_neg h0] at e; exact absurd e h0
    · rintro rfl
      rw [if_pos ((h.eq0 _ _).2 rfl), (k.eq0 _ _).2 rfl]
  trans x y z := by
    intro h1 h2
    by_cases a0 : c (f x) (f y) = 0
    · rw [if_pos a0] at h1
      rw [(h.eq0 _ _).1 a0]
      by_cases b0 : c (f y) (f z) = 0
      · rw [if_pos b0] at h2 ⊢
        exact k.trans _ _ _ h1 h2
      · rw [if_neg b0] at h2 ⊢
        exact h2
    · rw [if_neg a0] at h1
      by_cases b0 : c (f y) (f z) = 0
      · rw [← (h.eq0 _ _).1 b0, if_neg a0]; exact h1
      · rw [if_neg b0] at h2
        have e := h.trans _ _ _ h1 h2
        rw [if_neg (by omega)]; exact e
theorem less_irrefl : ∀ x : List UInt8, Op.bytesLess x x = false
  | [] => rfl
  | a :: x => by
    simp only [Op.bytesLess]
    rw [less_irrefl x]
    have : ¬ a < a := fun h => by have h' : a.toNat < a.toNat := h; omega
    simp [this]
theorem less_trans : ∀ (x y z : List UInt8), Op.bytesLess x y = true → Op.bytesLess y z = true → Op.bytesLess x z = true
  | [], [], _, h, _ => by simp [Op.bytesLess] at h
  | _ :: _, [], _, h, _ => by simp [Op.bytesLess] at h
  | _, _ :: _, [], _, h => by simp [Op.bytesLess] at h
  | [], _ :: _, _ :: _, _, _ => rfl
  | a :: x, b :: y, c :: z, h, k => by
    simp only [Op.bytesLess, Bool.or_eq_true, decide_eq_true_eq, Bool.and_eq_true, beq_iff_eq] at h k ⊢
    rcases h with h | ⟨rfl, h⟩
    · rcases k with k | ⟨rfl, k⟩
      · exact Or.inl (Nat.lt_trans (show a.toNat < b.toNat from h) (show b.toNat < c.toNat from k))
      · exact Or.inl h
    · rcases k with k | ⟨rfl, k⟩
      · exact Or.inl k
      · exact Or.inr ⟨rfl, less_trans x y z h k⟩
theorem toList_inj {a b : ByteArray} (h : a.toList = b.toList) : a = b := by
  rw [ByteArray.toList_eq, ByteArray.toList_eq] at h
  exact ByteArray.ext (Array.toList_inj.mp h)
/-- Which of two texts comes first. -/
def cmpS (x y : ByteArray) : Int := if Op.bytesLess x.toList y.toList = true then -1 else if Op.bytesLess y.toList x.toList = true then 1 else 0
def cmpI (x y : Int) : Int := if x < y then -1 else if x > y then 1 else 0
theorem cmpI_c : Cmp cmpI where
  anti x y := by unfold cmpI; split <;> split <;> (try split) <;> (try split) <;> omega
  tri x y := by unfold cmpI; split <;> (try split) <;> omega
  eq0 x y := by unfold cmpI; split <;> (try split) <;> omega
  trans x y z := by unfold cmpI; split <;> split <;> (try split) <;> (try split) <;> (try split) <;> omega
theorem cmpS_m {x y : ByteArray} : cmpS x y = -1 ↔ Op.bytesLess x.toList y.toList = true := by
  unfold cmpS
  split
  · rename_i h; simp [h]
  · rename_i h; simp only [h]; split <;> simp
theorem cmpS_c : Cmp cmpS where
  anti x y := by
    unfold cmpS
    by_cases h : Op.bytesLess x.toList y.toList = true
    · have k : ¬ Op.bytesLess y.toList x.toList = true := fun k => by
        have e := less_trans _ _ _ h k
        rw [less_irrefl] at e; exact Bool.noConfusion e
      rw [if_neg k, if_pos h]; simp [h]
    · rw [if_neg h]
      by_cases k : Op.bytesLess y.toList x.toList = true
      · simp [h, k]
      · simp [h, k]
  tri x y := by unfold cmpS; split <;> (try split) <;> omega
  eq0 x y := by
    constructor
    · intro e
      unfold cmpS at e
      by_cases h : Op.bytesLess x.toList y.toList = true
      · rw [if_pos h] at e; omega
      · rw [if_neg h] at e
        by_cases k : Op.bytesLess y.toList x.toList = true
        · rw [if_pos k] at e; omega
        · have s := Gt.less_swap x.toList y.toList
          have h' : Op.bytesLess x.toList y.toList = false := by simpa using h
          have k' : Op.bytesLess y.toList x.toList = false := by simpa using k
          rw [h', k'] at s
          have s2 : (x.toList == y.toList) = true := by simpa using s
          exact toList_inj (by simpa using s2)
    · rintro rfl
      unfold cmpS
      rw [if_neg (by rw [less_irrefl]; exact Bool.noConfusion), if_neg (by rw [less_irrefl]; exact Bool.noConfusion)]
  trans x y z h k := cmpS_m.2 (less_trans _ _ _ (cmpS_m.1 h) (cmpS_m.1 k))
/-- Which of two rows. -/
def cmpR {α : Type} (c : α → α → Int) : List α → List α → Int
  | [], [] => 0
  | [], _ :: _ => -1
  | _ :: _, [] => 1
  | x :: xs, y :: ys => if c x y = 0 then cmpR c xs ys else c x y
theorem cmpR_anti {α : Type} {c : α → α → Int} (h : Cmp c) : ∀ x y, cmpR c y x = - cmpR c x y
  | [], [] => rfl
  | [], _ :: _ => rfl
  | _ :: _, [] => rfl
  | x :: xs, y :: ys => by
    have e := h.anti x y
    have ih := cmpR_anti h xs ys
    simp only [cmpR]
    by_cases h0 : c x y = 0
    · rw [if_pos h0, if_pos (by omega), ih]
    · rw [if_neg h0, if_neg (by omega), e]
theorem cmpR_tri {α : Type} {c : α → α → Int} (h : Cmp c) : ∀ x y, cmpR c x y = -1 ∨ cmpR c x y = 0 ∨ cmpR c x y = 1
  | [], [] => Or.inr (Or.inl rfl)
  | [], _ :: _ => Or.inl rfl
  | _ :: _, [] => Or.inr (Or.inr rfl)
  | x :: xs, y :: ys => by
    simp only [cmpR]
    split
    · exact cmpR_tri h xs ys
    · exact h.tri x y
theorem cmpR_eq0 {α : Type} {c : α → α → Int} (h : Cmp c) : ∀ x y, cmpR c x y = 0 ↔ x = y
  | [], [] => by simp [cmpR]
  | [], _ :: _ => by simp [cmpR]
  | _ :: _, [] => by simp [cmpR]
  | x :: xs, y :: ys => by
    have ih := cmpR_eq0 h xs ys
    have e := h.eq0 x y
    simp only [cmpR, List.cons.injEq]
    by_cases h0 : c x y = 0
    · rw [if_pos h0, ih]; exact ⟨fun k => ⟨e.1 h0, k⟩, fun k => k.2⟩
    · rw [if_neg h0]; exact ⟨fun k => absurd k h0, fun k => absurd (e.2 k.1) h0⟩
theorem cmpR_trans {α : Type} {c : α → α → Int} (h : Cmp c) : ∀ x y z, cmpR c x y = -1 → cmpR c y z = -1 → cmpR c x z = -1
  | [], [], _, a, _ => by simp [cmpR] at a
  | _ :: _, [], _, a, _ => by simp [cmpR] at a
  | _, _ :: _, [], _, b => by simp [cmpR] at b
  | [], _ :: _, _ :: _, _, _ => rfl
  | x :: xs, y :: ys, z :: zs, a, b => by
    simp only [cmpR] at a b ⊢
    by_cases a0 : c x y = 0
    · rw [if_pos a0] at a
      rw [(h.eq0 _ _).1 a0]
      by_cases b0 : c y z = 0
      · rw [if_pos b0] at b ⊢; exact cmpR_trans h xs ys zs a b
      · rw [if_neg b0] at b ⊢; exact b
    · rw [if_neg a0] at a
      by_cases b0 : c y z = 0
      · rw [← (h.eq0 _ _).1 b0, if_neg a0]; exact a
      · rw [if_neg b0] at b
        have e := h.trans _ _ _ a b
        rw [if_neg (by omega)]; exact e
theorem Cmp.row {α : Type} {c : α → α → Int} (h : Cmp c) : Cmp (cmpR c) := ⟨cmpR_anti h, cmpR_tri h, cmpR_eq0 h, cmpR_trans h⟩
/-- A row in order, each once. -/
def Up {α : Type} (c : α → α → Int) (l : List α) : Prop := l.Pairwise fun x y => c x y = -1
theorem up_unique {α : Type} {c : α → α → Int} (h : Cmp c) : ∀ {l m : List α}, Up c l → Up c m → (∀ x, x ∈ l ↔ x ∈ m) → l = m
  | [], [], _, _, _ => rfl
  | [], y :: m, _, _, e => by have := (e y).2 (List.mem_cons_self ..); simp at this
  | x :: l, [], _, _, e => by have := (e x).1 (List.mem_cons_self ..); simp at this
  | x :: l, y :: m, a, b, e => by
    obtain ⟨a1, a2⟩ := List.pairwise_cons.1 a
    obtain ⟨b1, b2⟩ := List.pairwise_cons.1 b
    have irr : ∀ z, ¬ c z z = -1 := fun z k => by rw [(h.eq0 z z).2 rfl] at k; omega
    have xy : x = y := by
      rcases List.mem_cons.1 ((e x).1 (List.mem_cons_self ..)) with h1 | h1
      · exact h1
      · rcases List.mem_cons.1 ((e y).2 (List.mem_cons_self ..)) with h2 | h2
        · exact h2.symm
        · have p := a1 y h2
          have q := b1 x h1
          have r := h.anti x y
          omega
    subst xy
    rw [up_unique h a2 b2 fun z => ?_]
    constructor
    · intro hz
      rcases List.mem_cons.1 ((e z).1 (List.mem_cons_of_mem _ hz)) with rfl | h1
      · exact absurd (a1 _ hz) (irr _)
      · exact h1
    · intro hz
      rcases List.mem_cons.1 ((e z).2 (List.mem_cons_of_mem _ hz)) with rfl | h1
      · exact absurd (b1 _ hz) (irr _)
      · exact h1
end Go.Proofs.Ytfejjfbhlmjkeaa.CQ
set_option linter.unusedVariables false
set_option linter.unusedSimpArgs false
namespace Go.Proofs.Ytfejjfbhlmjkeaa.C
open Go.RowKit Go.Proofs.YtfejjfbhlmjkeaaW.PrintWords Go.Proofs.YtfejjfbhlmjkeaaW.PrintLast Go.Proofs.YtfejjfbhlmjkeaaW.PrintMore Go.Proofs.Ytfejjfbhlmjkeaa.B Go.Proofs.Ytfejjfbhlmjkeaa.Reg Go.Proofs.Ytfejjfbhlmjkeaa.PRecordIs Go.Proofs.Ytfejjfbhlmjkeaa.CQ
/-- Grown behind, drawn on. -/
structure Bd (w w' : World) : Prop where
  below : Below w.heap.size w w'
  drawn : w.drawn ≤ w'.drawn
theorem Bd.refl (w : World) : Bd w w := ⟨Below.refl _ _, Nat.le_refl _⟩
theorem Bd.trans {a b c : World} (h : Bd a b) (k : Bd b c) : Bd a c := ⟨below_step h.below k.below, Nat.le_trans h.drawn k.drawn⟩
theorem Bd.drewN {a b : World} (h : Bd a b) (n : Nat) : Bd a (b.drewN n) := ⟨pw_below_drewN h.below n, Nat.le_trans h.drawn (Nat.le_add_right _ _)⟩
theorem Bd.drew {a b : World} (h : Bd a b) : Bd a (b.drewN 1) := h.drewN 1
theorem Bd.alloc {a b : World} (h : Bd a b) (o : Obj) : Bd a (b.alloc o) := ⟨below_alloc h.below o, h.drawn⟩
theorem Bd.of0 {a b : World} (h : Drawn0 a b) : Bd a b := by
  obtain ⟨n, rfl⟩ := h.out
  exact (Bd.refl a).drewN n
theorem Bd.cell {a b : World} {p : Addr} {v : Value} (h : Bd a b) (hc : a.cell? p = some v) : b.cell? p = some v := by
  refine (h.below.cell ?_).trans hc
  unfold World.cell? at hc
  rcases Nat.lt_or_ge p.block a.heap.size with hl | hl
  · exact hl
  · rw [Array.getElem?_eq_none hl] at hc; cases hc
theorem Bd.grow {w w' : World} (h : Bd w w') : ∃ q os, w' = Go.Sort.grow (w.drewN q) os := by
  refine ⟨w'.drawn - w.drawn, w'.heap.extract w.heap.size w'.heap.size, ?_⟩
  have e : w'.heap = w.heap ++ w'.heap.extract w.heap.size w'.heap.size := by
    apply Array.ext_getElem?
    intro i
    rw [Array.getElem?_append]
    split
    · rename_i hi; exact h.below.block i hi
    · rename_i hi
      rw [Array.getElem?_extract]
      have := h.below.size
      split
      · congr 1; omega
      · rw [Array.getElem?_eq_none (by omega)]
  have h1 := h.below.os
  have h2 := h.below.tape
  have h3 := h.below.output
  have h4 := h.drawn
  cases w' with | mk hp tp dr os out =>
  cases w with | mk hp0 tp0 dr0 os0 out0 =>
  simp only at h1 h2 h3 h4 e
  subst h1 h2 h3
  simp only [Go.Sort.grow, World.drewN, World.mk.injEq, and_true, true_and]
  exact ⟨e, by omega⟩
def cmpN (x y : S47) : Int := if cmpS x.f0 y.f0 = 0 then cmpS x.f1 y.f1 else cmpS x.f0 y.f0
theorem cmpN_c : Cmp cmpN := cmpS_c.lex cmpS_c S47.f0 S47.f1 (fun x y h k => by cases x; cases y; cases h; cases k; rfl)
theorem w64_in (x : Int) (h : -9223372036854775808 ≤ x ∧ x ≤ 9223372036854775807) : wrap64 x = x := by unfold wrap64; omega
theorem compS_f (x y : ByteArray) : cmp_Compare_string.f x y = some (cmpS x y) := by
  unfold cmp_Compare_string.f cmp_isNaN_string.f cmpS
  simp only [bne_self_eq_false, Option.bind_some, Bool.false_eq_true, if_false]
  split
  · rfl
  · split <;> rfl
theorem compI_f (x y : Int) : cmp_Compare_int.f x y = some (cmpI x y) := by
  unfold cmp_Compare_int.f cmp_isNaN_int.f cmpI
  simp only [bne_self_eq_false, Option.bind_some, Bool.false_eq_true, if_false]
  split
  · rfl
  · split <;> rfl
theorem or_step (k : Nat) (l : List Int) (i : Nat) (hl : l.length ≤ 100) (hi : i < l.length) : cmp_Or_int.l0 (k + 1) 0 l (l.length : Int) (i : Int) = if l[i] = 0 then cmp_Or_int.l0 k 0 l (l.length : Int) ((i + 1 : Nat) : Int) else some l[i] := by
  rw [cmp_Or_int.l0]
  have e : rd l (i : Int) = l[i] := by
    unfold rd
    rw [Int.toNat_natCast, List.getD_eq_getElem?_getD, List.getElem?_eq_getElem hi]
    rfl
  rw [if_pos (by omega), if_pos (by omega), if_pos (by omega), e, w64_in _ (by omega)]
  rfl
theorem or_end (k : Nat) (l : List Int) : cmp_Or_int.l0 (k + 1) 0 l (l.length : Int) (l.length : Int) = some 0 := by
  rw [cmp_Or_int.l0, if_neg (by omega)]
theorem or2_f (a b : Int) : cmp_Or_int.f 3 [a, b] = some (if a = 0 then b else a) := by
  unfold cmp_Or_int.f
  have h0 := or_step 2 [a, b] 0 (by simp) (by simp)
  have h1 := or_step 1 [a, b] 1 (by simp) (by simp)
  have h2 := or_end 0 [a, b]
  refine h0.trans ?_
  by_cases ha : a = 0
  · rw [if_pos ha, if_pos (show [a, b][0] = 0 from ha)]
    refine h1.trans ?_
    by_cases hb : b = 0
    · rw [if_pos (show [a, b][1] = 0 from hb), hb]; exact hb ▸ h2
    · rw [if_neg (show ¬ [a, b][1] = 0 from hb)]; rfl
  · rw [if_neg ha, if_neg (show ¬ [a, b][0] = 0 from ha)]; rfl
theorem or3_f (a b c : Int) : cmp_Or_int.f 4 [a, b, c] = some (if a = 0 then (if b = 0 then c else b) else a) := by
  unfold cmp_Or_int.f
  have h0 := or_step 3 [a, b, c] 0 (by simp) (by simp)
  have h1 := or_step 2 [a, b, c] 1 (by simp) (by simp)
  have h2 := or_step 1 [a, b, c] 2 (by simp) (by simp)
  have h3 := or_end 0 [a, b, c]
  refine h0.trans ?_
  by_cases ha : a = 0
  · rw [if_pos ha, if_pos (show [a, b, c][0] = 0 from ha)]
    refine h1.trans ?_
    by_cases hb : b = 0
    · rw [if_pos hb, if_pos (show [a, b, c][1] = 0 from hb)]
      refine h2.trans ?_
      by_cases hc : c = 0
      · rw [if_pos (show [a, b, c][2] = 0 from hc), hc]; exact hc ▸ h3
      · rw [if_neg (show ¬ [a, b, c][2] = 0 from hc)]; rfl
    · rw [if_neg hb, if_neg (show ¬ [a, b, c][1] = 0 from hb)]; rfl
  · rw [if_neg ha, if_neg (show ¬ [a, b, c][0] = 0 from ha)]; rfl
theorem cmpS_any (x y : ByteArray) (w : World) : Calls Try.prog 53 #[.string x, .string y] w fun e w' => e = .returned (.int .i64 (cmpS x y)) ∧ Bd w w' :=
  (cmp_Compare_string.calls x y _ w (compS_f x y)).mono fun _ _ ⟨h, k⟩ => ⟨h, Bd.of0 k⟩
theorem cmpI_any (x y : Int) (w : World) : Calls Try.prog 50 #[.int .i64 x, .int .i64 y] w fun e w' => e = .returned (.int .i64 (cmpI x y)) ∧ Bd w w' :=
  (cmp_Compare_int.calls x y _ w (compI_f x y)).mono fun _ _ ⟨h, k⟩ => ⟨h, Bd.of0 k⟩
theorem nums_row (w : World) (l : List Int) (hl : l.length ≤ 100) : Kd.C (Kd.int .i64) (w.alloc (.cells (l.map fun x => Value.int .i64 x).toArray 3)) (some ⟨w.heap.size, 0, none⟩) l.length l := by
  refine ⟨rfl, by omega, fun _ => ⟨_, rfl, fun j x hx => ⟨[.int .i64 x], rfl, rfl, fun i u hu => ?_⟩⟩⟩
  have e : (⟨w.heap.size, 0, none⟩ : Addr).add (j * (Kd.int .i64).sz + i) = ⟨w.heap.size, j + i, none⟩ := by
    show (⟨w.heap.size, 0, none⟩ : Addr).add (j * 1 + i) = _
    rw [add_at, Nat.zero_add, Nat.mul_one]
  rw [e, blk_cell (Go.heap_alloc_new w _)]
  match i, hu with
  | 0, hu => rw [← hu]; simp [hx]
theorem nums2 (w : World) (a b : Int) : Kd.C (Kd.int .i64) (w.alloc (.cells #[.int .i64 a, .int .i64 b] 3)) (some ⟨w.heap.size, 0, none⟩) 2 [a, b] := nums_row w [a, b] (by simp)
theorem nums3 (w : World) (a b c : Int) : Kd.C (Kd.int .i64) (w.alloc (.cells #[.int .i64 a, .int .i64 b, .int .i64 c] 3)) (some ⟨w.heap.size, 0, none⟩) 3 [a, b, c] := nums_row w [a, b, c] (by simp)
theorem or2_any (a b : Int) (w : World) (A : Option Addr) (h : Kd.C (Kd.int .i64) w A 2 [a, b]) : Calls Try.prog 49 #[.slice A 2 2] w fun e w' => e = .returned (.int .i64 (if a = 0 then b else a)) ∧ Bd w w' :=
  (cmp_Or_int.calls 3 A 2 [a, b] _ w h (by simp) (or2_f a b)).mono fun _ _ ⟨h, k⟩ => ⟨h, Bd.of0 k⟩
theorem or3_any (a b c : Int) (w : World) (A : Option Addr) (h : Kd.C (Kd.int .i64) w A 3 [a, b, c]) : Calls Try.prog 49 #[.slice A 3 3] w fun e w' => e = .returned (.int .i64 (if a = 0 then (if b = 0 then c else b) else a)) ∧ Bd w w' :=
  (cmp_Or_int.calls 4 A 3 [a, b, c] _ w h (by simp) (or3_f a b c)).mono fun _ _ ⟨h, k⟩ => ⟨h, Bd.of0 k⟩
theorem box1 (w : World) (o1 o2 : Obj) : ((w.alloc o1).alloc o2).heap[w.heap.size + 1]? = some o2 := by
  have := Go.heap_alloc_new (w.alloc o1) o2
  simpa using this
theorem box0 (w : World) (o1 o2 : Obj) : ((w.alloc o1).alloc o2).heap[w.heap.size]? = some o1 :=
  blk_alloc (Go.heap_alloc_new w o1) o2
def T_record_label_1 : Bool × List (List Nat × List Nat) := (true, [([], []), ([0], [0]), ([], []), ([2], [2]), ([1, 3], [1, 3]), ([], []), ([5], [5]), ([], []), ([7], [7]), ([6, 8, 4], [6, 8]), ([4, 9], [4, 9]), ([10, 9], [10]), ([11, 11, 0, 1, 2, 3, 4, 5, 6, 7, 8, 9, 10, 11], [11])])
def B_record_label_1 : List Nat := [0, 1, 0, 4, 15, 0, 32, 0, 128, 511, 1023, 2047, 4095]
theorem tab_record_label_1 : rtab .any (opsOf Try.f52 1) = T_record_label_1 := by kernel_rfl
theorem bits_record_label_1 : waitsOk T_record_label_1.2 B_record_label_1 = true := by kernel_rfl
set_option maxRecDepth 20000 in
set_option maxHeartbeats 1000000 in
theorem label_any (x y : S47) (w : World) : Calls Try.prog 52 #[.agg #[.string x.f0, .string x.f1], .agg #[.string y.f0, .string y.f1]] w fun e w' => e = .returned (.int .i64 (cmpN x y)) ∧ Bd w w' := by
  obtain ⟨x0, x1⟩ := x
  obtain ⟨y0, y1⟩ := y
  dsimp only
  obtain ⟨q, hq⟩ : ∃ q, q = cmpN ⟨x0, x1⟩ ⟨y0, y1⟩ := ⟨_, rfl⟩
  rw [← hq]
  have HOr : Aside0 (∀ W A, Kd.C (Kd.int .i64) W A 2 [cmpS x0 y0, cmpS x1 y1] → Calls Try.prog 49 #[.slice A 2 2] W fun e w' => e = .returned (.int .i64 q) ∧ Bd W w') := ⟨fun W A h => by rw [hq]; exact or2_any _ _ W A h⟩
  clear hq
  obtain ⟨W, hW⟩ : ∃ W, W = (w.alloc (.cells #[.string x0, .string x1] 47)).alloc (.cells #[.string y0, .string y1] 47) := ⟨_, rfl⟩
  have HB : Aside0 (Bd w W) := ⟨by rw [hW]; exact ((Bd.refl w).alloc _).alloc _⟩
  have K0 : Aside0 (W.heap[w.heap.size]? = some (.cells #[.string x0, .string x1] 47)) := ⟨by rw [hW]; exact box0 w _ _⟩
  have K1 : Aside0 (W.heap[w.heap.size + 1]? = some (.cells #[.string y0, .string y1] 47)) := ⟨by rw [hW]; exact box1 w _ _⟩
  obtain ⟨j, hj⟩ : ∃ j, j = w.heap.size := ⟨_, rfl⟩
  rw [← hj] at K0 K1
  have X0 : Aside0 (W.cell? ⟨j, 0, none⟩ = some (.string x0)) := ⟨blk_cell K0.out 0⟩
  have X1 : Aside0 (W.cell? ⟨j, 1, none⟩ = some (.string x1)) := ⟨blk_cell K0.out 1⟩
  have Y0 : Aside0 (W.cell? ⟨j + 1, 0, none⟩ = some (.string y0)) := ⟨blk_cell K1.out 0⟩
  have Y1 : Aside0 (W.cell? ⟨j + 1, 1, none⟩ = some (.string y1)) := ⟨blk_cell K1.out 1⟩
  have HW := Aside0.mk hW
  have HJ := Aside0.mk hj
  clear K0 K1 hW hj
  go_enter Try.func52, Try.ntmps52
  go_wp2_with fail
  try rw [← HW.out]
  try rw [← HJ.out]
  clear HW HJ
  refine start_ (n := 13) (S := fun x_ => Bd W x_) (ds := []) #[false, false, false, false, false, false, false, false, false, false, false, false, false] (by kernel_rfl) rfl rfl (Bd.drew (Bd.refl _)) (fun hHeld => ?_)
  refine with_tabW tab_record_label_1 bits_record_label_1 (fun HT_ HW_ => ?_)
  have HB := Aside0.mk (Bd.drew HB.out)
  change Aside0 (Bd _ (World.drew W)) at HB
  change Bd _ (World.drew W) at hHeld
  have hSz : (World.drew W).heap.size = W.heap.size := rfl
  have X0 := Aside0.mk (show (World.drew W).cell? ⟨j, 0, none⟩ = _ from X0.out)
  have X1 := Aside0.mk (show (World.drew W).cell? ⟨j, 1, none⟩ = _ from X1.out)
  have Y0 := Aside0.mk (show (World.drew W).cell? ⟨j + 1, 0, none⟩ = _ from Y0.out)
  have Y1 := Aside0.mk (show (World.drew W).cell? ⟨j + 1, 1, none⟩ = _ from Y1.out)
  refine wpAnyLast_str (S' := fun x_ => Bd (World.drew W) x_) (fun x_ hx_ => Bd.trans hHeld hx_) (Bd.refl _) ?_
  clear hHeld hSz
  generalize World.drew W = Wd at *
  have HS := Aside0.mk (show Bd Wd Wd from Bd.refl Wd)
  refine pure_ (i := 0) (N := (some 5)) (v := ?_) (a' := ?_) #[true, false, false, false, false, false, false, false, false, false, false, false, false] rfl rfl (any_of HT_.out (by kernel_rfl)) (fun _ _ _ h => h) (Or.inl ⟨by rfl, ?_⟩) ?_ ?_
  rotate_left
  · intro w_
    go_simp
    try with_reducible rfl
  rotate_left
  · simp only [Act.put, List.setIfInBounds_toArray, List.set_cons_zero, List.set_cons_succ, i64_w, i32_w]
    rfl
  refine pure_ (i := 2) (N := (some 7)) (v := ?_) (a' := ?_) #[true, false, true, false, false, false, false, false, false, false, false, false, false] rfl rfl (any_of HT_.out (by kernel_rfl)) (fun _ _ _ h => h) (Or.inl ⟨by rfl, ?_⟩) ?_ ?_
  rotate_left
  · intro w_
    go_simp
    try with_reducible rfl
  rotate_left
  · simp only [Act.put, List.setIfInBounds_toArray, List.set_cons_zero, List.set_cons_succ, i64_w, i32_w]
    rfl
  refine pure_ (i := 5) (N := (some 10)) (v := ?_) (a' := ?_) #[true, false, true, false, false, true, false, false, false, false, false, false, false] rfl rfl (any_of HT_.out (by kernel_rfl)) (fun _ _ _ h => h) (Or.inl ⟨by rfl, ?_⟩) ?_ ?_
  rotate_left
  · intro w_
    go_simp
    try with_reducible rfl
  rotate_left
  · simp only [Act.put, List.setIfInBounds_toArray, List.set_cons_zero, List.set_cons_succ, i64_w, i32_w]
    rfl
  refine pure_ (i := 7) (N := (some 12)) (v := ?_) (a' := ?_) #[true, false, true, false, false, true, false, true, false, false, false, false, false] rfl rfl (any_of HT_.out (by kernel_rfl)) (fun _ _ _ h => h) (Or.inl ⟨by rfl, ?_⟩) ?_ ?_
  rotate_left
  · intro w_
    go_simp
    try with_reducible rfl
  rotate_left
  · simp only [Act.put, List.setIfInBounds_toArray, List.set_cons_zero, List.set_cons_succ, i64_w, i32_w]
    rfl
  refine take_ (i := 1) (N := (some 6)) (v := ?_) (a' := ?_) #[true, true, true, false, false, true, false, true, false, false, false, false, false] rfl rfl (take_ofW HT_.out HW_.out (by kernel_rfl)) (fun _ _ _ h => h) (Or.inl ⟨by rfl, ?_⟩) (Bd.refl _) ?_ ?_
  rotate_left
  · intro Wx hWx
    have hc := hWx.cell X0.out
    go_simp
    try with_reducible rfl
  rotate_left
  · simp only [Act.put, List.setIfInBounds_toArray, List.set_cons_zero, List.set_cons_succ, i64_w, i32_w]
    rfl
  refine take_ (i := 3) (N := (some 8)) (v := ?_) (a' := ?_) #[true, true, true, true, false, true, false, true, false, false, false, false, false] rfl rfl (take_ofW HT_.out HW_.out (by kernel_rfl)) (fun _ _ _ h => h) (Or.inl ⟨by rfl, ?_⟩) (Bd.refl _) ?_ ?_
  rotate_left
  · intro Wx hWx
    have hc := hWx.cell Y0.out
    go_simp
    try with_reducible rfl
  rotate_left
  · simp only [Act.put, List.setIfInBounds_toArray, List.set_cons_zero, List.set_cons_succ, i64_w, i32_w]
    rfl
  refine take_ (i := 6) (N := (some 11)) (v := ?_) (a' := ?_) #[true, true, true, true, false, true, true, true, false, false, false, false, false] rfl rfl (take_ofW HT_.out HW_.out (by kernel_rfl)) (fun _ _ _ h => h) (Or.inl ⟨by rfl, ?_⟩) (Bd.refl _) ?_ ?_
  rotate_left
  · intro Wx hWx
    have hc := hWx.cell X1.out
    go_simp
    try with_reducible rfl
  rotate_left
  · simp only [Act.put, List.setIfInBounds_toArray, List.set_cons_zero, List.set_cons_succ, i64_w, i32_w]
    rfl
  refine take_ (i := 8) (N := (some 13)) (v := ?_) (a' := ?_) #[true, true, true, true, false, true, true, true, true, false, false, false, false] rfl rfl (take_ofW HT_.out HW_.out (by kernel_rfl)) (fun _ _ _ h => h) (Or.inl ⟨by rfl, ?_⟩) (Bd.refl _) ?_ ?_
  rotate_left
  · intro Wx hWx
    have hc := hWx.cell Y1.out
    go_simp
    try with_reducible rfl
  rotate_left
  · simp only [Act.put, List.setIfInBounds_toArray, List.set_cons_zero, List.set_cons_succ, i64_w, i32_w]
    rfl
  refine one_ (i := 4) (N := (some 9)) #[true, true, true, true, true, true, true, true, true, false, false, false, false] rfl rfl (one_of HT_.out (by kernel_rfl)) (by decide) (fun K hK => ?_)
  refine goes_ Try.func53 (by kernel_rfl) rfl #[.string x0, .string y0] (by rfl) rfl rfl (by (try simp only [List.map_toArray, List.map_cons, List.map_nil]); first | done | rfl) ?_
  refine (cmpS_any x0 y0 _).mono ?_
  rintro e w1_4 ⟨rfl, hd_⟩
  refine ⟨_, rfl, ?_⟩
  have hb_ : Bd Wd w1_4 := hd_
  have HB := Aside0.mk (Bd.trans HB.out hb_)
  refine hK.out _ _ hb_ (fun hHeld => ?_)
  clear hK K
  refine wpAnyLast_str (S' := fun x_ => Bd w1_4 x_) (fun x_ hx_ => Bd.trans hHeld hx_) (Bd.refl _) ?_
  clear hHeld
  (try clear hb)
  clear hb_
  have HS := Aside0.mk (show Bd w1_4 w1_4 from Bd.refl w1_4)
  refine norm_ (a' := ?_) ?_ ?_
  rotate_left
  · show Act.put _ (some 9) _ = _
    simp only [Act.put, List.setIfInBounds_toArray, List.set_cons_zero, List.set_cons_succ, i64_w, i32_w]
    rfl
  refine one_ (i := 9) (N := (some 14)) #[true, true, true, true, true, true, true, true, true, true, false, false, false] rfl rfl (one_of HT_.out (by kernel_rfl)) (by decide) (fun K hK => ?_)
  refine goes_ Try.func53 (by kernel_rfl) rfl #[.string x1, .string y1] (by rfl) rfl rfl (by (try simp only [List.map_toArray, List.map_cons, List.map_nil]); first | done | rfl) ?_
  refine (cmpS_any x1 y1 _).mono ?_
  rintro e w1_9 ⟨rfl, hd_⟩
  refine ⟨_, rfl, ?_⟩
  have hb_ : Bd w1_4 w1_9 := hd_
  have HB := Aside0.mk (Bd.trans HB.out hb_)
  refine hK.out _ _ hb_ (fun hHeld => ?_)
  clear hK K
  refine wpAnyLast_str (S' := fun x_ => Bd w1_9 x_) (fun x_ hx_ => Bd.trans hHeld hx_) (Bd.refl _) ?_
  clear hHeld
  (try clear hb)
  clear hb_
  have HS := Aside0.mk (show Bd w1_9 w1_9 from Bd.refl w1_9)
  refine norm_ (a' := ?_) ?_ ?_
  rotate_left
  · show Act.put _ (some 14) _ = _
    simp only [Act.put, List.setIfInBounds_toArray, List.set_cons_zero, List.set_cons_succ, i64_w, i32_w]
    rfl
  refine one_ (i := 10) (N := (some 15)) #[true, true, true, true, true, true, true, true, true, true, true, false, false] rfl rfl (one_of HT_.out (by kernel_rfl)) (by decide) (fun K hK => ?_)
  refine value_ (w1 := ?_) (v := ?_) (by rfl) rfl ?_ ?_
  rotate_left 2
  · go_simp
    constructor
    · rfl
    · rfl
  have hb : Bd w1_9 (w1_9.alloc (.cells #[.int .i64 (cmpS x0 y0), .int .i64 (cmpS x1 y1)] 3)) := Bd.alloc (Bd.refl _) _
  have HO := Aside0.mk (nums2 w1_9 (cmpS x0 y0) (cmpS x1 y1))
  have hb_ : Bd w1_9 (w1_9.alloc (.cells #[.int .i64 (cmpS x0 y0), .int .i64 (cmpS x1 y1)] 3)) := hb
  have HB := Aside0.mk (Bd.trans HB.out hb_)
  refine hK.out _ _ hb_ (fun hHeld => ?_)
  clear hK K
  refine wpAnyLast_str (S' := fun x_ => Bd (w1_9.alloc (.cells #[.int .i64 (cmpS x0 y0), .int .i64 (cmpS x1 y1)] 3)) x_) (fun x_ hx_ => Bd.trans hHeld hx_) (Bd.refl _) ?_
  clear hHeld
  (try clear hb)
  clear hb_
  generalize (w1_9.alloc (.cells #[.int .i64 (cmpS x0 y0), .int .i64 (cmpS x1 y1)] 3)) = w1_10 at *
  have HS := Aside0.mk (show Bd w1_10 w1_10 from Bd.refl w1_10)
  refine norm_ (a' := ?_) ?_ ?_
  rotate_left
  · show Act.put _ (some 15) _ = _
    simp only [Act.put, List.setIfInBounds_toArray, List.set_cons_zero, List.set_cons_succ, i64_w, i32_w]
    rfl
  refine one_ (i := 11) (N := (some 16)) #[true, true, true, true, true, true, true, true, true, true, true, true, false] rfl rfl (one_of HT_.out (by kernel_rfl)) (by decide) (fun K hK => ?_)
  refine goes_ Try.func49 (by kernel_rfl) rfl #[.slice (some ⟨_, 0, none⟩) 2 2] (by rfl) rfl rfl (by (try simp only [List.map_toArray, List.map_cons, List.map_nil]); first | done | rfl) ?_
  refine (HOr.out _ _ HO.out).mono ?_
  rintro e w1_11 ⟨rfl, hd_⟩
  refine ⟨_, rfl, ?_⟩
  have hb_ : Bd w1_10 w1_11 := hd_
  have HB := Aside0.mk (Bd.trans HB.out hb_)
  refine hK.out _ _ hb_ (fun hHeld => ?_)
  clear hK K
  refine wpAnyLast_str (S' := fun x_ => Bd w1_11 x_) (fun x_ hx_ => Bd.trans hHeld hx_) (Bd.refl _) ?_
  clear hHeld
  (try clear hb)
  clear hb_
  have HS := Aside0.mk (show Bd w1_11 w1_11 from Bd.refl w1_11)
  refine norm_ (a' := ?_) ?_ ?_
  rotate_left
  · show Act.put _ (some 16) _ = _
    simp only [Act.put, List.setIfInBounds_toArray, List.set_cons_zero, List.set_cons_succ, i64_w, i32_w]
    rfl
  refine pure_ (i := 12) (N := (some 4)) (v := ?_) (a' := ?_) #[true, true, true, true, true, true, true, true, true, true, true, true, true] rfl rfl (any_of HT_.out (by kernel_rfl)) (fun _ _ _ h => h) (Or.inl ⟨by rfl, ?_⟩) ?_ ?_
  rotate_left
  · intro w_
    go_simp
    try with_reducible rfl
  rotate_left
  · simp only [Act.put, List.setIfInBounds_toArray, List.set_cons_zero, List.set_cons_succ, i64_w, i32_w]
    rfl
  refine done_ (done_of HT_.out (by kernel_rfl)) ?_
  go_wp2_with fail
  go_ret
  exact ⟨rfl, HB.out⟩
theorem cmpR_drop (xs ys : List S47) (i : Nat) (hx : i < xs.length) (hy : i < ys.length) : cmpR cmpN (xs.drop i) (ys.drop i) = if cmpN xs[i] ys[i] = 0 then cmpR cmpN (xs.drop (i + 1)) (ys.drop (i + 1)) else cmpN xs[i] ys[i] := by
  rw [List.drop_eq_getElem_cons hx, List.drop_eq_getElem_cons hy]
  rfl
theorem at47 {xs : List S47} {j : Nat} (h : j < xs.length) : rd_T47 xs (j : Int) = xs[j] := by
  unfold rd_T47
  rw [Int.toNat_natCast, List.getD_eq_getElem?_getD, List.getElem?_eq_getElem h]
  rfl
set_option maxRecDepth 20000 in
set_option maxHeartbeats 2000000 in
theorem compareF (xs ys : List S47) (A B : Option Addr) (c c' : Nat) (w : World) (hx : Kd.C k47 w A xs.length xs) (hy : Kd.C k47 w B ys.length ys) (hxm : xs.length ≤ 100000) (hym : ys.length ≤ 100000) :
    Calls Try.prog 51 #[.slice A xs.length c, .slice B ys.length c', .func (.func 52) #[] #[]] w fun e w' => e = .returned (.int .i64 (cmpR cmpN xs ys)) ∧ Bd w w' := by
  have HX := Aside0.mk hx
  have HY := Aside0.mk hy
  have HM := Aside0.mk hxm
  have HM2 := Aside0.mk hym
  have eg : ∀ args w, (callFunc 52 args).run Try.prog w = .ok (.enter 52 args) w := enters_of Try.func52 (by kernel_rfl) rfl
  clear hx hy hxm hym
  go_enter Try.func51, Try.ntmps51
  go_wp2
  go_loopw [13] (fun t13 wr => ∃ i : Nat, i ≤ xs.length ∧ i ≤ ys.length ∧ t13 = .int .i64 (i : Int) ∧ Aside0 (Bd w wr) ∧ Aside0 (cmpR cmpN (xs.drop i) (ys.drop i) = cmpR cmpN xs ys)) (fun t13 _ => xs.length - (intOf t13).toNat)
  case atStart => exact ⟨0, Nat.zero_le _, Nat.zero_le _, rfl, ⟨Bd.refl w⟩, ⟨rfl⟩⟩
  case round =>
    obtain ⟨i, hix, hiy, rfl, HB, HE⟩ := hrel
    by_cases hlt : i < xs.length
    · have d1 : decide (i < xs.length) = true := decide_eq_true hlt
      obtain ⟨ad, hA, k0, k1⟩ := at_T47 (Kd.C_below HX.out HB.out.below) (i : Int) (by omega) (by omega)
      subst hA
      rw [Int.toNat_natCast] at k0 k1
      rw [at47 hlt] at k0 k1
      by_cases hlt2 : i < ys.length
      · have d2 : decide (ys.length ≤ i) = false := decide_eq_false (by omega)
        obtain ⟨ad2, hB2, m0, m1⟩ := at_T47 (Kd.C_below HY.out (below_alloc HB.out.below (.cells #[.string (xs[i]).f0, .string (xs[i]).f1] 47))) (i : Int) (by omega) (by omega)
        subst hB2
        rw [Int.toNat_natCast] at m0 m1
        rw [at47 hlt2] at m0 m1
        have HD := Aside0.mk (cmpR_drop xs ys i hlt hlt2)
        obtain ⟨x, hxe⟩ : ∃ x, x = xs[i] := ⟨_, rfl⟩
        obtain ⟨y, hye⟩ : ∃ y, y = ys[i] := ⟨_, rfl⟩
        rw [← hxe] at k0 k1 m0 m1 HD
        rw [← hye] at m0 m1 HD
        obtain ⟨x0, x1⟩ := x
        obtain ⟨y0, y1⟩ := y
        clear hxe hye
        dsimp only at k0 k1 m0 m1
        have HLb := fun V => Aside0.mk (label_any ⟨x0, x1⟩ ⟨y0, y1⟩ V)
        obtain ⟨q, hq⟩ : ∃ q, q = cmpN ⟨x0, x1⟩ ⟨y0, y1⟩ := ⟨_, rfl⟩
        rw [← hq] at HD HLb
        clear hq
        have Hlt := Aside0.mk (And.intro hlt hlt2)
        clear hix hiy
        by_cases hq0 : q = 0
        · subst hq0
          go_wp2_with (go_at_fn 52; refine ((HLb _).out).mono ?_; rintro e w1 ⟨rfl, hb1⟩; have HB1 := Aside0.mk (Bd.trans (Bd.alloc (Bd.alloc HB.out _) _) hb1); clear hb1)
          go_roundw
          case rel =>
            have h1 := Hlt.out
            have h2 := HM.out
            refine ⟨i + 1, by omega, by omega, by rw [w64_in _ (by omega)]; rfl, HB1, ⟨?_⟩⟩
            rw [← HE.out, HD.out]
            exact (if_pos trivial).symm
          case measure => have h1 := Hlt.out; have h2 := HM.out; rw [w64_in _ (by omega)]; simp [intOf]; omega
        · have d3 : (q != 0) = true := by simpa using hq0
          go_wp2_with (go_at_fn 52; refine ((HLb _).out).mono ?_; rintro e w1 ⟨rfl, hb1⟩; have HB1 := Aside0.mk (Bd.trans (Bd.alloc (Bd.alloc HB.out _) _) hb1); clear hb1)
          go_ret
          refine ⟨?_, HB1.out⟩
          rw [← HE.out, HD.out, if_neg hq0]
          rfl
      · have d2 : decide (ys.length ≤ i) = true := decide_eq_true (by omega)
        have he : cmpR cmpN (xs.drop i) (ys.drop i) = 1 := by
          rw [List.drop_eq_getElem_cons hlt, (List.drop_eq_nil_of_le (by omega) : ys.drop i = [])]
          rfl
        have HE2 := Aside0.mk (HE.out.symm.trans he)
        obtain ⟨x, hxe⟩ : ∃ x, x = xs[i] := ⟨_, rfl⟩
        rw [← hxe] at k0 k1
        obtain ⟨x0, x1⟩ := x
        dsimp only at k0 k1
        clear hxe he HE hlt2 hix hiy
        go_wp2
        go_ret
        exact ⟨by rw [HE2.out]; rfl, Bd.alloc HB.out _⟩
    · have d1 : decide (i < xs.length) = false := decide_eq_false hlt
      have hi : i = xs.length := by omega
      by_cases hlt2 : xs.length < ys.length
      · have d2 : decide (xs.length < ys.length) = true := decide_eq_true hlt2
        have he : cmpR cmpN (xs.drop i) (ys.drop i) = -1 := by
          rw [List.drop_eq_getElem_cons (show i < ys.length by omega), (List.drop_eq_nil_of_le (by omega) : xs.drop i = [])]
          rfl
        have HE2 := Aside0.mk (HE.out.symm.trans he)
        clear he HE hlt hlt2 hix hiy hi
        go_wp2
        go_ret
        exact ⟨by rw [HE2.out]; rfl, HB.out⟩
      · have d2 : decide (xs.length < ys.length) = false := decide_eq_false hlt2
        have he : cmpR cmpN (xs.drop i) (ys.drop i) = 0 := by
          rw [List.drop_eq_nil_of_le (by omega), List.drop_eq_nil_of_le (by omega)]
          rfl
        have HE2 := Aside0.mk (HE.out.symm.trans he)
        clear he HE hlt hlt2 hix hiy hi
        go_wp2
        go_ret
        exact ⟨by rw [HE2.out]; rfl, HB.out⟩
/-- An entry as it is handed over: its time, its labels (where they lie, and what they are), its line. -/
structure Ent where
  at_ : Int
  A : Option Addr
  c : Nat
  ls : List S47
  line : ByteArray
/-- What an entry is. -/
structure Key where
  at_ : Int
  ls : List S47
  line : ByteArray
def Ent.key (x : Ent) : Key := ⟨x.at_, x.ls, x.line⟩
def Ent.cells (x : Ent) : List Value := [.int .i64 x.at_, .slice x.A x.ls.length x.c, .string x.line]
def Ent.val (x : Ent) : Value := .agg #[.int .i64 x.at_, .slice x.A x.ls.length x.c, .string x.line]
/-- Its labels lie there. -/
structure Ent.In (x : Ent) (w : World) : Prop where
  lies : Kd.C k47 w x.A x.ls.length x.ls
  cap : x.ls.length ≤ x.c
  few : x.ls.length ≤ 100000
def cmpK2 (x y : List S47 × ByteArray) : Int := if cmpR cmpN x.1 y.1 = 0 then cmpS x.2 y.2 else cmpR cmpN x.1 y.1
def cmpE (x y : Key) : Int := if cmpI x.at_ y.at_ = 0 then (if cmpR cmpN x.ls y.ls = 0 then cmpS x.line y.line else cmpR cmpN x.ls y.ls) else cmpI x.at_ y.at_
theorem cmpK2_c : Cmp cmpK2 := (cmpN_c.row).lex cmpS_c Prod.fst Prod.snd (fun x y h k => by cases x; cases y; cases h; cases k; rfl)
theorem cmpE_c : Cmp cmpE := cmpI_c.lex cmpK2_c Key.at_ (fun x : Key => (x.ls, x.line)) (fun x y h k => by cases x; cases y; cases h; cases k; rfl)
theorem Ent.In.bd {x : Ent} {w w' : World} (h : x.In w) (k : Bd w w') : x.In w' := ⟨Kd.C_below h.lies k.below, h.cap, h.few⟩
def T_record_Compare_1 : Bool × List (List Nat × List Nat) := (true, [([], []), ([0], [0]), ([], []), ([2], [2]), ([1, 3], [1, 3]), ([], []), ([5], [5]), ([], []), ([7], [7]), ([6, 8, 4], [6, 8]), ([], []), ([10], [10]), ([], []), ([12], [12]), ([11, 13, 9], [11, 13]), ([4, 9, 14], [4, 9, 14]), ([15, 14], [15]), ([16, 16, 0, 1, 2, 3, 4, 5, 6, 7, 8, 9, 10, 11, 12, 13, 14, 15, 16], [16])])
def B_record_Compare_1 : List Nat := [0, 1, 0, 4, 15, 0, 32, 0, 128, 511, 0, 1024, 0, 4096, 16383, 32767, 65535, 131071]
theorem tab_record_Compare_1 : rtab .any (opsOf Try.f22 1) = T_record_Compare_1 := by kernel_rfl
theorem bits_record_Compare_1 : waitsOk T_record_Compare_1.2 B_record_Compare_1 = true := by kernel_rfl
set_option maxRecDepth 20000 in
set_option maxHeartbeats 1000000 in
theorem compare_any (x y : Ent) (w : World) (hx : x.In w) (hy : y.In w) : Calls Try.prog 22 #[x.val, y.val] w fun e w' => e = .returned (.int .i64 (cmpE x.key y.key)) ∧ Bd w w' := by
  have HX := Aside0.mk hx
  have HY := Aside0.mk hy
  clear hx hy
  obtain ⟨x0, xA, xc, xl, x2⟩ := x
  obtain ⟨y0, yA, yc, yl, y2⟩ := y
  unfold Ent.val
  dsimp only
  obtain ⟨q, hq⟩ : ∃ q, q = cmpE (Ent.key ⟨x0, xA, xc, xl, x2⟩) (Ent.key ⟨y0, yA, yc, yl, y2⟩) := ⟨_, rfl⟩
  rw [← hq]
  have HOr : Aside0 (∀ W A, Kd.C (Kd.int .i64) W A 3 [cmpI x0 y0, cmpR cmpN xl yl, cmpS x2 y2] → Calls Try.prog 49 #[.slice A 3 3] W fun e w' => e = .returned (.int .i64 q) ∧ Bd W w') := ⟨fun W A h => by rw [hq]; exact or3_any _ _ _ W A h⟩
  clear hq
  obtain ⟨W, hW⟩ : ∃ W, W = (w.alloc (.cells #[.int .i64 x0, .slice xA xl.length xc, .string x2] 34)).alloc (.cells #[.int .i64 y0, .slice yA yl.length yc, .string y2] 34) := ⟨_, rfl⟩
  have HB : Aside0 (Bd w W) := ⟨by rw [hW]; exact ((Bd.refl w).alloc _).alloc _⟩
  have HX := Aside0.mk (HX.out.bd HB.out)
  have HY := Aside0.mk (HY.out.bd HB.out)
  have K0 : Aside0 (W.heap[w.heap.size]? = some (.cells #[.int .i64 x0, .slice xA xl.length xc, .string x2] 34)) := ⟨by rw [hW]; exact box0 w _ _⟩
  have K1 : Aside0 (W.heap[w.heap.size + 1]? = some (.cells #[.int .i64 y0, .slice yA yl.length yc, .string y2] 34)) := ⟨by rw [hW]; exact box1 w _ _⟩
  obtain ⟨j, hj⟩ : ∃ j, j = w.heap.size := ⟨_, rfl⟩
  rw [← hj] at K0 K1
  have X0 : Aside0 (W.cell? ⟨j, 0, none⟩ = some (.int .i64 x0)) := ⟨blk_cell K0.out 0⟩
  have X1 : Aside0 (W.cell? ⟨j, 1, none⟩ = some (.slice xA xl.length xc)) := ⟨blk_cell K0.out 1⟩
  have X2 : Aside0 (W.cell? ⟨j, 2, none⟩ = some (.string x2)) := ⟨blk_cell K0.out 2⟩
  have Y0 : Aside0 (W.cell? ⟨j + 1, 0, none⟩ = some (.int .i64 y0)) := ⟨blk_cell K1.out 0⟩
  have Y1 : Aside0 (W.cell? ⟨j + 1, 1, none⟩ = some (.slice yA yl.length yc)) := ⟨blk_cell K1.out 1⟩
  have Y2 : Aside0 (W.cell? ⟨j + 1, 2, none⟩ = some (.string y2)) := ⟨blk_cell K1.out 2⟩
  have HW := Aside0.mk hW
  have HJ := Aside0.mk hj
  clear K0 K1 hW hj
  go_enter Try.func22, Try.ntmps22
  go_wp2_with fail
  try rw [← HW.out]
  try rw [← HJ.out]
  clear HW HJ
  refine start_ (n := 18) (S := fun x_ => Bd W x_) (ds := []) #[false, false, false, false, false, false, false, false, false, false, false, false, false, false, false, false, false, false] (by kernel_rfl) rfl rfl (Bd.drew (Bd.refl _)) (fun hHeld => ?_)
  refine with_tabW tab_record_Compare_1 bits_record_Compare_1 (fun HT_ HW_ => ?_)
  have HB := Aside0.mk (Bd.drew HB.out)
  change Aside0 (Bd _ (World.drew W)) at HB
  change Bd _ (World.drew W) at hHeld
  have hSz : (World.drew W).heap.size = W.heap.size := rfl
  have X0 := Aside0.mk (show (World.drew W).cell? ⟨j, 0, none⟩ = _ from X0.out)
  have X1 := Aside0.mk (show (World.drew W).cell? ⟨j, 1, none⟩ = _ from X1.out)
  have X2 := Aside0.mk (show (World.drew W).cell? ⟨j, 2, none⟩ = _ from X2.out)
  have Y0 := Aside0.mk (show (World.drew W).cell? ⟨j + 1, 0, none⟩ = _ from Y0.out)
  have Y1 := Aside0.mk (show (World.drew W).cell? ⟨j + 1, 1, none⟩ = _ from Y1.out)
  have Y2 := Aside0.mk (show (World.drew W).cell? ⟨j + 1, 2, none⟩ = _ from Y2.out)
  have HX := Aside0.mk (show Ent.In _ (World.drew W) from HX.out.bd ((Bd.refl _).drew))
  have HY := Aside0.mk (show Ent.In _ (World.drew W) from HY.out.bd ((Bd.refl _).drew))
  refine wpAnyLast_str (S' := fun x_ => Bd (World.drew W) x_) (fun x_ hx_ => Bd.trans hHeld hx_) (Bd.refl _) ?_
  clear hHeld hSz
  generalize World.drew W = Wd at *
  have HS := Aside0.mk (show Bd Wd Wd from Bd.refl Wd)
  refine pure_ (i := 0) (N := (some 5)) (v := ?_) (a' := ?_) #[true, false, false, false, false, false, false, false, false, false, false, false, false, false, false, false, false, false] rfl rfl (any_of HT_.out (by kernel_rfl)) (fun _ _ _ h => h) (Or.inl ⟨by rfl, ?_⟩) ?_ ?_
  rotate_left
  · intro w_
    go_simp
    try with_reducible rfl
  rotate_left
  · simp only [Act.put, List.setIfInBounds_toArray, List.set_cons_zero, List.set_cons_succ, i64_w, i32_w]
    rfl
  refine pure_ (i := 2) (N := (some 7)) (v := ?_) (a' := ?_) #[true, false, true, false, false, false, false, false, false, false, false, false, false, false, false, false, false, false] rfl rfl (any_of HT_.out (by kernel_rfl)) (fun _ _ _ h => h) (Or.inl ⟨by rfl, ?_⟩) ?_ ?_
  rotate_left
  · intro w_
    go_simp
    try with_reducible rfl
  rotate_left
  · simp only [Act.put, List.setIfInBounds_toArray, List.set_cons_zero, List.set_cons_succ, i64_w, i32_w]
    rfl
  refine pure_ (i := 5) (N := (some 10)) (v := ?_) (a' := ?_) #[true, false, true, false, false, true, false, false, false, false, false, false, false, false, false, false, false, false] rfl rfl (any_of HT_.out (by kernel_rfl)) (fun _ _ _ h => h) (Or.inl ⟨by rfl, ?_⟩) ?_ ?_
  rotate_left
  · intro w_
    go_simp
    try with_reducible rfl
  rotate_left
  · simp only [Act.put, List.setIfInBounds_toArray, List.set_cons_zero, List.set_cons_succ, i64_w, i32_w]
    rfl
  refine pure_ (i := 7) (N := (some 12)) (v := ?_) (a' := ?_) #[true, false, true, false, false, true, false, true, false, false, false, false, false, false, false, false, false, false] rfl rfl (any_of HT_.out (by kernel_rfl)) (fun _ _ _ h => h) (Or.inl ⟨by rfl, ?_⟩) ?_ ?_
  rotate_left
  · intro w_
    go_simp
    try with_reducible rfl
  rotate_left
  · simp only [Act.put, List.setIfInBounds_toArray, List.set_cons_zero, List.set_cons_succ, i64_w, i32_w]
    rfl
  refine pure_ (i := 10) (N := (some 15)) (v := ?_) (a' := ?_) #[true, false, true, false, false, true, false, true, false, false, true, false, false, false, false, false, false, false] rfl rfl (any_of HT_.out (by kernel_rfl)) (fun _ _ _ h => h) (Or.inl ⟨by rfl, ?_⟩) ?_ ?_
  rotate_left
  · intro w_
    go_simp
    try with_reducible rfl
  rotate_left
  · simp only [Act.put, List.setIfInBounds_toArray, List.set_cons_zero, List.set_cons_succ, i64_w, i32_w]
    rfl
  refine pure_ (i := 12) (N := (some 17)) (v := ?_) (a' := ?_) #[true, false, true, false, false, true, false, true, false, false, true, false, true, false, false, false, false, false] rfl rfl (any_of HT_.out (by kernel_rfl)) (fun _ _ _ h => h) (Or.inl ⟨by rfl, ?_⟩) ?_ ?_
  rotate_left
  · intro w_
    go_simp
    try with_reducible rfl
  rotate_left
  · simp only [Act.put, List.setIfInBounds_toArray, List.set_cons_zero, List.set_cons_succ, i64_w, i32_w]
    rfl
  refine take_ (i := 1) (N := (some 6)) (v := ?_) (a' := ?_) #[true, true, true, false, false, true, false, true, false, false, true, false, true, false, false, false, false, false] rfl rfl (take_ofW HT_.out HW_.out (by kernel_rfl)) (fun _ _ _ h => h) (Or.inl ⟨by rfl, ?_⟩) (Bd.refl _) ?_ ?_
  rotate_left
  · intro Wx hWx
    have hc := hWx.cell X0.out
    go_simp
    try with_reducible rfl
  rotate_left
  · simp only [Act.put, List.setIfInBounds_toArray, List.set_cons_zero, List.set_cons_succ, i64_w, i32_w]
    rfl
  refine take_ (i := 3) (N := (some 8)) (v := ?_) (a' := ?_) #[true, true, true, true, false, true, false, true, false, false, true, false, true, false, false, false, false, false] rfl rfl (take_ofW HT_.out HW_.out (by kernel_rfl)) (fun _ _ _ h => h) (Or.inl ⟨by rfl, ?_⟩) (Bd.refl _) ?_ ?_
  rotate_left
  · intro Wx hWx
    have hc := hWx.cell Y0.out
    go_simp
    try with_reducible rfl
  rotate_left
  · simp only [Act.put, List.setIfInBounds_toArray, List.set_cons_zero, List.set_cons_succ, i64_w, i32_w]
    rfl
  refine take_ (i := 6) (N := (some 11)) (v := ?_) (a' := ?_) #[true, true, true, true, false, true, true, true, false, false, true, false, true, false, false, false, false, false] rfl rfl (take_ofW HT_.out HW_.out (by kernel_rfl)) (fun _ _ _ h => h) (Or.inl ⟨by rfl, ?_⟩) (Bd.refl _) ?_ ?_
  rotate_left
  · intro Wx hWx
    have hc := hWx.cell X1.out
    go_simp
    try with_reducible rfl
  rotate_left
  · simp only [Act.put, List.setIfInBounds_toArray, List.set_cons_zero, List.set_cons_succ, i64_w, i32_w]
    rfl
  refine take_ (i := 8) (N := (some 13)) (v := ?_) (a' := ?_) #[true, true, true, true, false, true, true, true, true, false, true, false, true, false, false, false, false, false] rfl rfl (take_ofW HT_.out HW_.out (by kernel_rfl)) (fun _ _ _ h => h) (Or.inl ⟨by rfl, ?_⟩) (Bd.refl _) ?_ ?_
  rotate_left
  · intro Wx hWx
    have hc := hWx.cell Y1.out
    go_simp
    try with_reducible rfl
  rotate_left
  · simp only [Act.put, List.setIfInBounds_toArray, List.set_cons_zero, List.set_cons_succ, i64_w, i32_w]
    rfl
  refine take_ (i := 11) (N := (some 16)) (v := ?_) (a' := ?_) #[true, true, true, true, false, true, true, true, true, false, true, true, true, false, false, false, false, false] rfl rfl (take_ofW HT_.out HW_.out (by kernel_rfl)) (fun _ _ _ h => h) (Or.inl ⟨by rfl, ?_⟩) (Bd.refl _) ?_ ?_
  rotate_left
  · intro Wx hWx
    have hc := hWx.cell X2.out
    go_simp
    try with_reducible rfl
  rotate_left
  · simp only [Act.put, List.setIfInBounds_toArray, List.set_cons_zero, List.set_cons_succ, i64_w, i32_w]
    rfl
  refine take_ (i := 13) (N := (some 18)) (v := ?_) (a' := ?_) #[true, true, true, true, false, true, true, true, true, false, true, true, true, true, false, false, false, false] rfl rfl (take_ofW HT_.out HW_.out (by kernel_rfl)) (fun _ _ _ h => h) (Or.inl ⟨by rfl, ?_⟩) (Bd.refl _) ?_ ?_
  rotate_left
  · intro Wx hWx
    have hc := hWx.cell Y2.out
    go_simp
    try with_reducible rfl
  rotate_left
  · simp only [Act.put, List.setIfInBounds_toArray, List.set_cons_zero, List.set_cons_succ, i64_w, i32_w]
    rfl
  refine one_ (i := 4) (N := (some 9)) #[true, true, true, true, true, true, true, true, true, false, true, true, true, true, false, false, false, false] rfl rfl (one_of HT_.out (by kernel_rfl)) (by decide) (fun K hK => ?_)
  refine goes_ Try.func50 (by kernel_rfl) rfl #[.int .i64 x0, .int .i64 y0] (by rfl) rfl rfl (by (try simp only [List.map_toArray, List.map_cons, List.map_nil]); first | done | rfl) ?_
  refine (cmpI_any x0 y0 _).mono ?_
  rintro e w1_4 ⟨rfl, hd_⟩
  refine ⟨_, rfl, ?_⟩
  have HX := Aside0.mk (HX.out.bd hd_)
  have HY := Aside0.mk (HY.out.bd hd_)
  have hb_ : Bd Wd w1_4 := hd_
  have HB := Aside0.mk (Bd.trans HB.out hb_)
  refine hK.out _ _ hb_ (fun hHeld => ?_)
  clear hK K
  refine wpAnyLast_str (S' := fun x_ => Bd w1_4 x_) (fun x_ hx_ => Bd.trans hHeld hx_) (Bd.refl _) ?_
  clear hHeld
  (try clear hb)
  clear hb_
  have HS := Aside0.mk (show Bd w1_4 w1_4 from Bd.refl w1_4)
  refine norm_ (a' := ?_) ?_ ?_
  rotate_left
  · show Act.put _ (some 9) _ = _
    simp only [Act.put, List.setIfInBounds_toArray, List.set_cons_zero, List.set_cons_succ, i64_w, i32_w]
    rfl
  refine one_ (i := 9) (N := (some 14)) #[true, true, true, true, true, true, true, true, true, true, true, true, true, true, false, false, false, false] rfl rfl (one_of HT_.out (by kernel_rfl)) (by decide) (fun K hK => ?_)
  refine goes_ Try.func51 (by kernel_rfl) rfl #[.slice xA xl.length xc, .slice yA yl.length yc, .func (.func 52) #[] #[]] (by rfl) rfl rfl (by (try simp only [List.map_toArray, List.map_cons, List.map_nil]); first | done | rfl) ?_
  refine (compareF xl yl xA yA xc yc _ HX.out.lies HY.out.lies HX.out.few HY.out.few).mono ?_
  rintro e w1_9 ⟨rfl, hd_⟩
  refine ⟨_, rfl, ?_⟩
  have hb_ : Bd w1_4 w1_9 := hd_
  have HB := Aside0.mk (Bd.trans HB.out hb_)
  refine hK.out _ _ hb_ (fun hHeld => ?_)
  clear hK K
  refine wpAnyLast_str (S' := fun x_ => Bd w1_9 x_) (fun x_ hx_ => Bd.trans hHeld hx_) (Bd.refl _) ?_
  clear hHeld
  (try clear hb)
  clear hb_
  have HS := Aside0.mk (show Bd w1_9 w1_9 from Bd.refl w1_9)
  refine norm_ (a' := ?_) ?_ ?_
  rotate_left
  · show Act.put _ (some 14) _ = _
    simp only [Act.put, List.setIfInBounds_toArray, List.set_cons_zero, List.set_cons_succ, i64_w, i32_w]
    rfl
  refine one_ (i := 14) (N := (some 19)) #[true, true, true, true, true, true, true, true, true, true, true, true, true, true, true, false, false, false] rfl rfl (one_of HT_.out (by kernel_rfl)) (by decide) (fun K hK => ?_)
  refine goes_ Try.func53 (by kernel_rfl) rfl #[.string x2, .string y2] (by rfl) rfl rfl (by (try simp only [List.map_toArray, List.map_cons, List.map_nil]); first | done | rfl) ?_
  refine (cmpS_any x2 y2 _).mono ?_
  rintro e w1_14 ⟨rfl, hd_⟩
  refine ⟨_, rfl, ?_⟩
  have hb_ : Bd w1_9 w1_14 := hd_
  have HB := Aside0.mk (Bd.trans HB.out hb_)
  refine hK.out _ _ hb_ (fun hHeld => ?_)
  clear hK K
  refine wpAnyLast_str (S' := fun x_ => Bd w1_14 x_) (fun x_ hx_ => Bd.trans hHeld hx_) (Bd.refl _) ?_
  clear hHeld
  (try clear hb)
  clear hb_
  have HS := Aside0.mk (show Bd w1_14 w1_14 from Bd.refl w1_14)
  refine norm_ (a' := ?_) ?_ ?_
  rotate_left
  · show Act.put _ (some 19) _ = _
    simp only [Act.put, List.setIfInBounds_toArray, List.set_cons_zero, List.set_cons_succ, i64_w, i32_w]
    rfl
  refine one_ (i := 15) (N := (some 20)) #[true, true, true, true, true, true, true, true, true, true, true, true, true, true, true, true, false, false] rfl rfl (one_of HT_.out (by kernel_rfl)) (by decide) (fun K hK => ?_)
  refine value_ (w1 := ?_) (v := ?_) (by rfl) rfl ?_ ?_
  rotate_left 2
  · go_simp
    constructor
    · rfl
    · rfl
  have hb : Bd w1_14 (w1_14.alloc (.cells #[.int .i64 (cmpI x0 y0), .int .i64 (cmpR cmpN xl yl), .int .i64 (cmpS x2 y2)] 3)) := Bd.alloc (Bd.refl _) _
  have HO := Aside0.mk (nums3 w1_14 (cmpI x0 y0) (cmpR cmpN xl yl) (cmpS x2 y2))
  have hb_ : Bd w1_14 (w1_14.alloc (.cells #[.int .i64 (cmpI x0 y0), .int .i64 (cmpR cmpN xl yl), .int .i64 (cmpS x2 y2)] 3)) := hb
  have HB := Aside0.mk (Bd.trans HB.out hb_)
  refine hK.out _ _ hb_ (fun hHeld => ?_)
  clear hK K
  refine wpAnyLast_str (S' := fun x_ => Bd (w1_14.alloc (.cells #[.int .i64 (cmpI x0 y0), .int .i64 (cmpR cmpN xl yl), .int .i64 (cmpS x2 y2)] 3)) x_) (fun x_ hx_ => Bd.trans hHeld hx_) (Bd.refl _) ?_
  clear hHeld
  (try clear hb)
  clear hb_
  generalize (w1_14.alloc (.cells #[.int .i64 (cmpI x0 y0), .int .i64 (cmpR cmpN xl yl), .int .i64 (cmpS x2 y2)] 3)) = w1_15 at *
  have HS := Aside0.mk (show Bd w1_15 w1_15 from Bd.refl w1_15)
  refine norm_ (a' := ?_) ?_ ?_
  rotate_left
  · show Act.put _ (some 20) _ = _
    simp only [Act.put, List.setIfInBounds_toArray, List.set_cons_zero, List.set_cons_succ, i64_w, i32_w]
    rfl
  refine one_ (i := 16) (N := (some 21)) #[true, true, true, true, true, true, true, true, true, true, true, true, true, true, true, true, true, false] rfl rfl (one_of HT_.out (by kernel_rfl)) (by decide) (fun K hK => ?_)
  refine goes_ Try.func49 (by kernel_rfl) rfl #[.slice (some ⟨_, 0, none⟩) 3 3] (by rfl) rfl rfl (by (try simp only [List.map_toArray, List.map_cons, List.map_nil]); first | done | rfl) ?_
  refine (HOr.out _ _ HO.out).mono ?_
  rintro e w1_16 ⟨rfl, hd_⟩
  refine ⟨_, rfl, ?_⟩
  have hb_ : Bd w1_15 w1_16 := hd_
  have HB := Aside0.mk (Bd.trans HB.out hb_)
  refine hK.out _ _ hb_ (fun hHeld => ?_)
  clear hK K
  refine wpAnyLast_str (S' := fun x_ => Bd w1_16 x_) (fun x_ hx_ => Bd.trans hHeld hx_) (Bd.refl _) ?_
  clear hHeld
  (try clear hb)
  clear hb_
  have HS := Aside0.mk (show Bd w1_16 w1_16 from Bd.refl w1_16)
  refine norm_ (a' := ?_) ?_ ?_
  rotate_left
  · show Act.put _ (some 21) _ = _
    simp only [Act.put, List.setIfInBounds_toArray, List.set_cons_zero, List.set_cons_succ, i64_w, i32_w]
    rfl
  refine pure_ (i := 17) (N := (some 4)) (v := ?_) (a' := ?_) #[true, true, true, true, true, true, true, true, true, true, true, true, true, true, true, true, true, true] rfl rfl (any_of HT_.out (by kernel_rfl)) (fun _ _ _ h => h) (Or.inl ⟨by rfl, ?_⟩) ?_ ?_
  rotate_left
  · intro w_
    go_simp
    try with_reducible rfl
  rotate_left
  · simp only [Act.put, List.setIfInBounds_toArray, List.set_cons_zero, List.set_cons_succ, i64_w, i32_w]
    rfl
  refine done_ (done_of HT_.out (by kernel_rfl)) ?_
  go_wp2_with fail
  go_ret
  exact ⟨rfl, HB.out⟩
end Go.Proofs.Ytfejjfbhlmjkeaa.C
set_option linter.unusedVariables false
set_option linter.unusedSimpArgs false
namespace Go.Proofs.Ytfejjfbhlmjkeaa.C
open Go.RowKit Go.Proofs.YtfejjfbhlmjkeaaW.PrintWords Go.Proofs.YtfejjfbhlmjkeaaW.PrintLast Go.Proofs.YtfejjfbhlmjkeaaW.PrintMore Go.Proofs.Ytfejjfbhlmjkeaa.B Go.Proofs.Ytfejjfbhlmjkeaa.Reg Go.Proofs.Ytfejjfbhlmjkeaa.PRecordIs Go.Proofs.Ytfejjfbhlmjkeaa.CQ
set_option maxRecDepth 20000 in
theorem turned_any (x y : Ent) (w : World) (hx : x.In w) (hy : y.In w) : Calls Try.prog 54 #[x.val, y.val] w fun e w' => e = .returned (.int .i64 (cmpE y.key x.key)) ∧ Bd w w' := by
  have HC := Aside0.mk (fun V (h : Bd w V) => compare_any y x V (hy.bd h) (hx.bd h))
  obtain ⟨q, hq⟩ : ∃ q, q = cmpE y.key x.key := ⟨_, rfl⟩
  rw [← hq] at HC ⊢
  clear hx hy hq
  obtain ⟨x0, xA, xc, xl, x2⟩ := x
  obtain ⟨y0, yA, yc, yl, y2⟩ := y
  unfold Ent.val at *
  dsimp only at *
  go_enter Try.func54, Try.ntmps54
  go_wp2_with (go_at_call 22; refine (HC.out _ (((Bd.refl w).alloc _).alloc _)).mono ?_; rintro e w1 ⟨rfl, hb1⟩; have HB1 := Aside0.mk ((((Bd.refl w).alloc _).alloc _).trans hb1); clear hb1)
  go_ret
  exact ⟨rfl, HB1.out⟩
set_option maxRecDepth 20000 in
theorem same_any (x y : Ent) (w : World) (hx : x.In w) (hy : y.In w) : Calls Try.prog 58 #[x.val, y.val] w fun e w' => e = .returned (.bool (cmpE x.key y.key == 0)) ∧ Bd w w' := by
  have HC := Aside0.mk (fun V (h : Bd w V) => compare_any x y V (hx.bd h) (hy.bd h))
  obtain ⟨q, hq⟩ : ∃ q, q = cmpE x.key y.key := ⟨_, rfl⟩
  rw [← hq] at HC ⊢
  clear hx hy hq
  obtain ⟨x0, xA, xc, xl, x2⟩ := x
  obtain ⟨y0, yA, yc, yl, y2⟩ := y
  unfold Ent.val at *
  dsimp only at *
  go_enter Try.func58, Try.ntmps58
  go_wp2_with (go_at_call 22; refine (HC.out _ (((Bd.refl w).alloc _).alloc _)).mono ?_; rintro e w1 ⟨rfl, hb1⟩; have HB1 := Aside0.mk ((((Bd.refl w).alloc _).alloc _).trans hb1); clear hb1)
  go_ret
  exact ⟨rfl, HB1.out⟩
/-- An entry that lies in w. -/
def EntIn (w : World) := {x : Ent // x.In w}
def Ent.zero : Ent := ⟨0, none, 0, [], ⟨#[]⟩⟩
theorem zero_in (w : World) : Ent.zero.In w := ⟨⟨rfl, Nat.zero_le _, fun h => absurd h (Nat.lt_irrefl 0)⟩, Nat.le_refl _, Nat.zero_le _⟩
instance (w : World) : Inhabited (EntIn w) := ⟨⟨Ent.zero, zero_in w⟩⟩
def enc {w : World} (x : EntIn w) : List Value := x.1.cells
theorem enc_len {w : World} (x : EntIn w) : (enc x).length = 3 := rfl
theorem enc_one {w : World} (x : EntIn w) : ∀ v ∈ enc x, v.oneCell' = true := by
  intro v hv
  unfold enc Ent.cells at hv
  simp only [List.mem_cons, List.not_mem_nil, or_false] at hv
  rcases hv with rfl | rfl | rfl <;> rfl
section
variable {α : Type} [Inhabited α] (eq : α → α → Bool) (d : Array α)
/-- The first m ones, each run of the same but once. -/
def once : Nat → List α
  | 0 => []
  | m + 1 => if m ≠ 0 ∧ eq d[m]! d[m - 1]! = true then once m else once m ++ [d[m]!]
theorem once_len : ∀ m, (once eq d m).length ≤ m
  | 0 => Nat.le_refl _
  | m + 1 => by
    have := once_len m
    simp only [once]
    split
    · omega
    · rw [List.length_append]; simp only [List.length_singleton]; omega
theorem once_all : ∀ m, (∀ j, 0 < j → j < m → eq d[j]! d[j - 1]! = false) → once eq d m = (List.range m).map fun i => d[i]!
  | 0, _ => rfl
  | m + 1, h => by
    have ih := once_all m fun j h0 h1 => h j h0 (by omega)
    simp only [once]
    rw [if_neg, ih, List.range_succ, List.map_append]
    · rfl
    · rintro ⟨h0, h1⟩
      rw [h m (by omega) (by omega)] at h1
      cases h1
structure OnceInv (m kk : Nat) (dk : Array α) : Prop where
  len : (once eq d m).length = kk
  lt : kk < m
  size : dk.size = d.size
  low : ∀ i, i < kk → dk[i]! = (once eq d m)[i]!
  high : ∀ i, kk ≤ i → dk[i]! = d[i]!
variable {eq d}
theorem OnceInv.start {k : Nat} (h0 : 0 < k) (h : ∀ j, 0 < j → j < k → eq d[j]! d[j - 1]! = false) (hk : eq d[k]! d[k - 1]! = true) : OnceInv eq d (k + 1) k d where
  len := by
    simp only [once]
    rw [if_pos ⟨by omega, hk⟩, once_all eq d k h]; simp
  lt := Nat.lt_succ_self _
  size := rfl
  low i hi := by
    simp only [once]
    rw [if_pos ⟨by omega, hk⟩, once_all eq d k h, List.getElem!_eq_getElem?_getD, List.getElem?_map, List.getElem?_range hi]
    rfl
  high i hi := rfl
theorem OnceInv.skip {m kk : Nat} {dk : Array α} (h : OnceInv eq d m kk dk) (h0 : m ≠ 0) (hm : eq d[m]! d[m - 1]! = true) : OnceInv eq d (m + 1) kk dk := by
  have e : once eq d (m + 1) = once eq d m := by simp only [once]; rw [if_pos ⟨h0, hm⟩]
  exact ⟨by rw [e]; exact h.len, by have := h.lt; omega, h.size, by rw [e]; exact h.low, h.high⟩
theorem OnceInv.keep {m kk : Nat} {dk : Array α} (h : OnceInv eq d m kk dk) (hlt : m < d.size) (hm : eq d[m]! d[m - 1]! = false) : OnceInv eq d (m + 1) (kk + 1) (dk.setIfInBounds kk d[m]!) := by
  have e : once eq d (m + 1) = once eq d m ++ [d[m]!] := by simp only [once]; rw [if_neg (by rintro ⟨_, h1⟩; rw [hm] at h1; cases h1)]
  have hl := h.len
  have hlt' := h.lt
  have hs := h.size
  refine ⟨by rw [e, List.length_append, hl]; rfl, by omega, by simpa using hs, fun i hi => ?_, fun i hi => ?_⟩
  · rw [e, List.getElem!_eq_getElem?_getD, getElem!_def, Array.getElem?_setIfInBounds]
    by_cases hik : kk = i
    · subst hik
      rw [if_pos rfl, if_pos (by omega), List.getElem?_append_right (by omega), hl, Nat.sub_self]
      rfl
    · rw [if_neg hik, List.getElem?_append_left (by omega)]
      have := h.low i (by omega)
      rw [List.getElem!_eq_getElem?_getD, getElem!_def] at this
      exact this
  · rw [getElem!_def, Array.getElem?_setIfInBounds, if_neg (by omega), ← getElem!_def]
    exact h.high i (by omega)
end
end Go.Proofs.Ytfejjfbhlmjkeaa.C
set_option linter.unusedVariables false
set_option linter.unusedSimpArgs false
namespace Go.Proofs.Ytfejjfbhlmjkeaa.C
open Go.RowKit Go.Sort Go.Proofs.YtfejjfbhlmjkeaaW.PrintWords Go.Proofs.YtfejjfbhlmjkeaaW.PrintLast Go.Proofs.YtfejjfbhlmjkeaaW.PrintMore Go.Proofs.Ytfejjfbhlmjkeaa.B Go.Proofs.Ytfejjfbhlmjkeaa.PRecordIs Go.Proofs.Ytfejjfbhlmjkeaa.CQ
def keyOf {w : World} (x : EntIn w) : Key := x.1.key
def eqE {w : World} (x y : EntIn w) : Bool := cmpE (keyOf x) (keyOf y) == 0
theorem below_putRow {w0 w : World} {n0 blk off : Nat} {F : Array Value} (h : Below n0 w0 w) (hb : n0 ≤ blk) : Below n0 w0 (putRow id w blk off F) := by
  refine h.trans ⟨rfl, rfl, rfl, by rw [size_putRow]; exact Nat.le_refl _, fun k hk => ?_⟩
  unfold putRow mapBlock
  simp only [Array.getElem?_modify]
  rw [if_neg (by omega)]
/-- What lies in the sort's worlds: all as it lay ahead, but for the row. -/
theorem below_sortW {α : Type} [Inhabited α] {e : α → List Value} {w0 w : World} {n0 blk off m : Nat} {dk : Array α} {os : Array Obj} (h : Below n0 w0 w) (hb : n0 ≤ blk) (hn : n0 ≤ w.heap.size) : Below n0 w0 (sortWorldK e 3 w blk off m dk os) := by
  have h1 : Below n0 w0 (Sort.ahead w m) := h.trans ⟨rfl, rfl, rfl, Nat.le_refl _, fun _ _ => rfl⟩
  have h2 : Below n0 w0 (putRowK e 3 (Sort.ahead w m) blk off dk) := below_putRow h1 hb
  unfold sortWorldK
  refine h2.trans ⟨rfl, rfl, rfl, by rw [size_grow]; omega, fun k hk => heap_grow_old _ _ ?_⟩
  unfold putRowK
  rw [size_putRow]
  exact Nat.lt_of_lt_of_le hk hn
theorem below_class {w0 w : World} {n0 : Nat} (h : Below n0 w0 w) (hn : n0 ≤ w.heap.size) (n : Nat) (os : Array Obj) : Below n0 w0 (grow (w.drewN n) os) :=
  h.trans ⟨rfl, rfl, rfl, by rw [size_grow]; exact Nat.le_add_right _ _, fun k hk => heap_grow_old _ _ (Nat.lt_of_lt_of_le hk hn)⟩
theorem Ent.In.below {x : Ent} {w w' : World} (h : x.In w) (k : Below w.heap.size w w') : x.In w' := ⟨Kd.C_below h.lies k, h.cap, h.few⟩
theorem setMany_one {α : Type} [Inhabited α] (e : α → List Value) (k : Nat) (hk : ∀ x, (e x).length = k) (d : Array α) (i : Nat) (x : α) (hi : i < d.size) : setMany (flatK e k d) (i * k) (e x) = flatK e k (d.setIfInBounds i x) := by
  refine ext_get! (by simp) fun t ht => ?_
  have ht' : t < d.size * k := by simpa using ht
  have k0 : 0 < k := by rcases Nat.eq_zero_or_pos k with h | h; · subst h; simp at ht'
                        · exact h
  rw [get_setMany _ _ _ t (by simpa using ht'), get_flatK _ _ _ t ht', get_flatK _ _ _ t (by simpa using ht'), hk]
  have m : ∀ q, t / k = q → t - q * k = t % k := fun q h => by subst h; rw [Nat.mod_eq_sub_div_mul]
  by_cases a : t / k = i
  · rw [if_pos ((blk_iff k i t k0).2 a), m i a, a, getElem!_set_same d i x hi]
  · rw [if_neg (fun h => a ((blk_iff k i t k0).1 h))]
    congr 2
    rw [getElem!_def, getElem!_def, Array.getElem?_setIfInBounds, if_neg (Ne.symm a)]
theorem holdsK_cell {w0 W : World} {blk off : Nat} {d : Array (EntIn w0)} (h : HoldsK enc 3 W blk off d) {i : Nat} (hi : i < d.size) {x : EntIn w0} (hx : d[i]! = x) :
    W.cell? ⟨blk, off + i * 3, none⟩ = some (.int .i64 x.1.at_) ∧ W.cell? ⟨blk, off + i * 3 + 1, none⟩ = some (.slice x.1.A x.1.ls.length x.1.c) ∧ W.cell? ⟨blk, off + i * 3 + 2, none⟩ = some (.string x.1.line) ∧
    W.frozen? ⟨blk, off + i * 3, none⟩ = false ∧ W.frozen? ⟨blk, off + i * 3 + 1, none⟩ = false ∧ W.frozen? ⟨blk, off + i * 3 + 2, none⟩ = false := by
  have hs : (flatK enc 3 d).size = d.size * 3 := size_flatK _ _ _
  have c : ∀ r, r < 3 → W.cell? ⟨blk, off + i * 3 + r, none⟩ = some (enc x)[r]! ∧ W.frozen? ⟨blk, off + i * 3 + r, none⟩ = false := fun r hr => by
    have h1 := h (i * 3 + r) (by rw [hs]; omega)
    rw [get_flatK _ _ _ _ (by omega), show (i * 3 + r) / 3 = i by omega, show (i * 3 + r) % 3 = r by omega, hx, ← Nat.add_assoc] at h1
    exact h1
  exact ⟨(c 0 (by omega)).1, (c 1 (by omega)).1, (c 2 (by omega)).1, (c 0 (by omega)).2, (c 1 (by omega)).2, (c 2 (by omega)).2⟩
theorem same_in {w0 : World} (x y : EntIn w0) (V : World) (h : Below w0.heap.size w0 V) : Calls Try.prog 58 #[x.1.val, y.1.val] V fun e w' => e = .returned (.bool (eqE x y)) ∧ ∃ q os', w' = grow (V.drewN q) os' :=
  (same_any x.1 y.1 V (x.2.below h) (y.2.below h)).mono fun _ _ ⟨he, hb⟩ => ⟨he, hb.grow⟩
theorem store_in {w0 w wr : World} {blk off m : Nat} {dk : Array (EntIn w0)} {os : Array Obj} (hblk : blk < w.heap.size) (hwr : wr = sortWorldK enc 3 w blk off m dk os) {i : Nat} (hi : i < dk.size) (x : EntIn w0) :
    wr.setCells blk (off + i * 3) (enc x) = sortWorldK enc 3 w blk off m (dk.setIfInBounds i x) os := by
  subst hwr
  unfold sortWorldK
  rw [setCells_grow os blk _ _ _ (by show blk < (putRowK enc 3 _ blk off dk).heap.size; rw [size_putRowK]; exact hblk)]
  congr 1
  unfold putRowK
  rw [setCells_putRow _ _ _ _ _ _ (by rw [size_flatK]; show i * 3 + 3 ≤ _; omega), setMany_one enc 3 enc_len dk i x hi]
end Go.Proofs.Ytfejjfbhlmjkeaa.C
set_option linter.unusedVariables false
set_option linter.unusedSimpArgs false
namespace Go.Proofs.Ytfejjfbhlmjkeaa.C
open Go.RowKit Go.Sort Go.Proofs.YtfejjfbhlmjkeaaW.PrintWords Go.Proofs.YtfejjfbhlmjkeaaW.PrintLast Go.Proofs.YtfejjfbhlmjkeaaW.PrintMore Go.Proofs.Ytfejjfbhlmjkeaa.B Go.Proofs.Ytfejjfbhlmjkeaa.PRecordIs Go.Proofs.Ytfejjfbhlmjkeaa.CQ
/-- What lies in a row of entries. -/
def RowE {w0 : World} (W : World) (blk off : Nat) (l : List (EntIn w0)) : Prop := ∀ i x, l[i]? = some x → W.cell? ⟨blk, off + i * 3, none⟩ = some (.int .i64 x.1.at_) ∧ W.cell? ⟨blk, off + i * 3 + 1, none⟩ = some (.slice x.1.A x.1.ls.length x.1.c) ∧ W.cell? ⟨blk, off + i * 3 + 2, none⟩ = some (.string x.1.line)
theorem run_clear_row (W : World) (ty : TypeId) (blk off s m c : Nat) (F : Array Value) (h : Holds id W blk off F) (hs : s + m * 3 = F.size) (hm : 0 < m) :
    (Builtin.clear_ #[40] ty #[.slice (some ⟨blk, off + s, none⟩) m c]).run Try.prog W = .ok (.tuple #[]) (W.setCells blk (off + s) (Builtin.zeroCells #[.int .i64 0, .slice none 0 0, .string ⟨#[]⟩] m).toList) := by
  have hv : ∀ w, (zeroValue 34).run Try.prog w = .ok (.agg #[.int .i64 0, .slice none 0 0, .string ⟨#[]⟩]) w := fun w => Try.zeroValue34 w
  have hst := stores_of_holds Try.prog h s (Builtin.zeroCells #[.int .i64 0, .slice none 0 0, .string ⟨#[]⟩] m).toList (by rw [Array.length_toList, size_zeroCells]; exact Nat.le_of_eq hs) (by
    intro v hv'
    unfold Builtin.zeroCells at hv'
    simp only [Array.mem_toList_iff, Array.mem_map, Array.mem_range] at hv'
    obtain ⟨i, _, rfl⟩ := hv'
    have h3 : i % 3 = 0 ∨ i % 3 = 1 ∨ i % 3 = 2 := by omega
    show (#[Value.int .i64 0, .slice none 0 0, .string ⟨#[]⟩][i % 3]!).oneCell' = true
    rcases h3 with h3 | h3 | h3 <;> rw [h3] <;> rfl)
  obtain ⟨k, rfl⟩ : ∃ k, m = k + 1 := ⟨m - 1, by omega⟩
  have hc : (Value.agg #[.int .i64 0, .slice none 0 0, .string ⟨#[]⟩]).cells = #[.int .i64 0, .slice none 0 0, .string ⟨#[]⟩] := rfl
  simp [Builtin.clear_, run_underlying Try.underlying40, hv, hc, hst]
set_option maxHeartbeats 4000000 in
set_option maxRecDepth 1000000 in
theorem compact_any {w0 w : World} (blk off cap : Nat) (d : Array (EntIn w0)) (hw : Below w0.heap.size w0 w) (hn : w0.heap.size ≤ blk) (hblk : blk < w.heap.size) (hH : HoldsK enc 3 w blk off d) (hsz : d.size ≤ 4611686018427387904) (hcap : d.size ≤ cap) :
    Calls Try.prog 57 #[.slice (some ⟨blk, off, none⟩) d.size cap, .func (.func 58) #[] #[]] w fun e w' =>
      e = .returned (.slice (some ⟨blk, off, none⟩) (once eqE d d.size).length cap) ∧ Below w0.heap.size w0 w' ∧ RowE w' blk off (once eqE d d.size) := by
  have mixed : Try.prog.follows .mixedOrders = true := by kernel_rfl
  have eg : ∀ args w, (callFunc 58 args).run Try.prog w = .ok (.enter 58 args) w := enters_of Try.func58 (by kernel_rfl) rfl
  have HW := Aside0.mk hw
  have HN := Aside0.mk hn
  have HBk := Aside0.mk hblk
  have HH := Aside0.mk hH
  have HNw : Aside0 (w0.heap.size ≤ w.heap.size) := ⟨by omega⟩
  have HST : Aside0 (w = sortWorldK enc 3 w blk off 0 d #[]) := ⟨by unfold sortWorldK; rw [grow_empty]; exact (putRowK_self enc 3 w blk off d hH).symm⟩
  have HALL : Aside0 ((∀ j, 0 < j → j < d.size → eqE d[j]! d[j - 1]! = false) → ∀ W, HoldsK enc 3 W blk off d → (once eqE d d.size).length = d.size ∧ RowE W blk off (once eqE d d.size)) := ⟨fun h W hW => by
    have e := once_all eqE d d.size h
    rw [e]
    refine ⟨by simp, fun i x hx => ?_⟩
    rw [List.getElem?_map] at hx
    rcases Nat.lt_or_ge i d.size with hi | hi
    · rw [List.getElem?_range hi] at hx
      have hx' : d[i]! = x := by simpa using hx
      have := holdsK_cell hW hi hx'
      exact ⟨this.1, this.2.1, this.2.2.1⟩
    · rw [List.getElem?_eq_none (by simpa using hi)] at hx; cases hx⟩
  clear hw hn hblk hH
  by_cases h2 : d.size < 2
  · go_enter Try.func57, Try.ntmps57
    go_wp2
    go_ret
    obtain ⟨e1, e2⟩ := HALL.out (fun j h0 h1 => by omega) w HH.out
    exact ⟨by rw [e1]; rfl, HW.out, e2⟩
  · go_enter Try.func57, Try.ntmps57
    go_wp2
    go_loopg [5] d.size (fun g s5 wr => ∃ (k n : Nat) (os : Array Obj), 1 ≤ k ∧ k ≤ d.size ∧ d.size - k ≤ g ∧ s5 = .int .i64 k ∧ wr = sortWorldK enc 3 w blk off n d os ∧ Aside0 (∀ j, 0 < j → j < k → eqE d[j]! d[j - 1]! = false))
    case atStart => exact ⟨1, 0, #[], Nat.le_refl _, by omega, by omega, rfl, HST.out, ⟨fun j h0 h1 => by omega⟩⟩
    case round =>
      obtain ⟨k, n, os, hk1, hk, hg, rfl, rfl, HK⟩ := hrel
      by_cases hlt : k < d.size
      · obtain ⟨kp, rfl⟩ : ∃ kp, k = kp + 1 := ⟨k - 1, by omega⟩
        have hwp : IntKind.i64.wrap (kp : Int) = (kp : Int) := by rw [IntKind.wrap_i64]; omega
        have jz : (kp : Int) + 1 < (d.size : Int) := by omega
        have jz1 : (kp : Int) < (d.size : Int) := by omega
        have p0 : (0 : Int) ≤ (kp : Int) + 1 := by omega
        have e0 : ((kp : Int) + 1).toNat = kp + 1 := by omega
        obtain ⟨x, hx⟩ : ∃ x, d[kp + 1]! = x := ⟨_, rfl⟩
        obtain ⟨y, hy⟩ : ∃ y, d[kp]! = y := ⟨_, rfl⟩
        have hcls : ∀ n' os', grow ((sortWorldK enc 3 w blk off n d os).drewN n') os' = sortWorldK enc 3 w blk off (n + n') d (os ++ os') := fun n' os' => sortWorldK_grown_c enc 3 w blk off n n' d os os'
        have hHc : ∀ n' os', HoldsK enc 3 (grow ((sortWorldK enc 3 w blk off n d os).drewN n') os') blk off d := fun n' os' => by rw [hcls]; exact holdsK_sortWorldK_c enc 3 w blk off d d _ _ HH.out HBk.out rfl
        have hb : Below w0.heap.size w0 (sortWorldK enc 3 w blk off n d os) := below_sortW HW.out HN.out HNw.out
        have hbs : w0.heap.size ≤ (sortWorldK enc 3 w blk off n d os).heap.size := Nat.le_trans HNw.out (size_sortWorldK_c enc 3 w blk off n d os)
        have hcg : ∀ n' os', Calls Try.prog 58 #[x.1.val, y.1.val] (grow ((sortWorldK enc 3 w blk off n d os).drewN n') os') fun e w' => e = .returned (.bool (eqE x y)) ∧ ∃ q os'', w' = grow ((grow ((sortWorldK enc 3 w blk off n d os).drewN n') os').drewN q) os'' := fun n' os' => same_in x y _ (below_class hb hbs n' os')
        have c0 : ∀ n' os', (grow ((sortWorldK enc 3 w blk off n d os).drewN n') os').cell? ⟨blk, off + (kp + 1) * 3, none⟩ = some (.int .i64 x.1.at_) := fun n' os' => (holdsK_cell (hHc n' os') hlt hx).1
        have c1 : ∀ n' os', (grow ((sortWorldK enc 3 w blk off n d os).drewN n') os').cell? ⟨blk, off + (kp + 1) * 3 + 1, none⟩ = some (.slice x.1.A x.1.ls.length x.1.c) := fun n' os' => (holdsK_cell (hHc n' os') hlt hx).2.1
        have c2 : ∀ n' os', (grow ((sortWorldK enc 3 w blk off n d os).drewN n') os').cell? ⟨blk, off + (kp + 1) * 3 + 2, none⟩ = some (.string x.1.line) := fun n' os' => (holdsK_cell (hHc n' os') hlt hx).2.2.1
        have f0 : ∀ n' os', (grow ((sortWorldK enc 3 w blk off n d os).drewN n') os').cell? ⟨blk, off + kp * 3, none⟩ = some (.int .i64 y.1.at_) := fun n' os' => (holdsK_cell (hHc n' os') (by omega) hy).1
        have f1 : ∀ n' os', (grow ((sortWorldK enc 3 w blk off n d os).drewN n') os').cell? ⟨blk, off + kp * 3 + 1, none⟩ = some (.slice y.1.A y.1.ls.length y.1.c) := fun n' os' => (holdsK_cell (hHc n' os') (by omega) hy).2.1
        have f2 : ∀ n' os', (grow ((sortWorldK enc 3 w blk off n d os).drewN n') os').cell? ⟨blk, off + kp * 3 + 2, none⟩ = some (.string y.1.line) := fun n' os' => (holdsK_cell (hHc n' os') (by omega) hy).2.2.1
        have CLS := Aside0.mk hcls
        clear hcls hHc hb hbs
        generalize hwq : sortWorldK enc 3 w blk off n d os = wq at c0 c1 c2 f0 f1 f2 hcg CLS ⊢
        have HXY : Aside0 (d[kp + 1]! = x ∧ d[kp]! = y) := ⟨hx, hy⟩
        clear hx hy
        obtain ⟨bq, hbq⟩ : ∃ b, b = eqE x y := ⟨_, rfl⟩
        rw [← hbq] at hcg
        have HQ := Aside0.mk hbq
        clear hbq
        have HQd := Aside0.mk hwq
        clear hwq
        by_cases hdup : bq = true
        · subst hdup
          go_wp2_with fail
          go_quiet_grown (first | (go_at_fn 58; refine Calls.grown_of (hcg _ _)))
          go_wp2_with fail
          go_loopg [5, 7] d.size (fun g s5 s7 wr => ∃ (kk k2 n2 : Nat) (dk : Array (EntIn w0)) (os2 : Array Obj), s5 = .int .i64 kk ∧ s7 = .int .i64 k2 ∧ 1 ≤ k2 ∧ kp + 1 + k2 ≤ d.size ∧ d.size - (kp + 1 + k2) ≤ g ∧ wr = sortWorldK enc 3 w blk off n2 dk os2 ∧ Aside0 (OnceInv eqE d (kp + 1 + k2) kk dk))
          case atStart => exact ⟨kp + 1, 1, n + nq, d, os ++ osq, rfl, rfl, Nat.le_refl _, by omega, by omega, CLS.out nq osq, ⟨OnceInv.start (Nat.succ_pos _) HK.out (by rw [HXY.out.1, show kp + 1 - 1 = kp from rfl, HXY.out.2]; exact HQ.out.symm)⟩⟩
          case round =>
            obtain ⟨kk, k2, n2, dk, os2, rfl, rfl, h1, hle, hg2, rfl, HI⟩ := hrel
            clear c0 c1 c2 f0 f1 f2 hcg
            clear CLS HQd
            clear jz jz1 p0 e0 hwp
            have hkl := HI.out.lt
            have hds := HI.out.size
            have hHk : HoldsK enc 3 (sortWorldK enc 3 w blk off n2 dk os2) blk off dk := holdsK_sortWorldK_c enc 3 w blk off d dk _ _ HH.out HBk.out hds
            by_cases hlt2 : kp + 1 + k2 < d.size
            · obtain ⟨kq, rfl⟩ : ∃ kq, k2 = kq + 1 := ⟨k2 - 1, by omega⟩
              have hwq2 : IntKind.i64.wrap (kq : Int) = (kq : Int) := by rw [IntKind.wrap_i64]; omega
              have q0 : (0 : Int) ≤ (kq : Int) + 1 := by omega
              have jq1 : (kq : Int) < ((d.size - (kp + 1) : Nat) : Int) := by omega
              have jq2 : kq < d.size - (kp + 1) := by omega
              have qe : ((kq : Int) + 1).toNat = kq + 1 := by omega
              obtain ⟨u, hu⟩ : ∃ u, d[kp + 1 + (kq + 1)]! = u := ⟨_, rfl⟩
              obtain ⟨v, hv⟩ : ∃ v, d[kp + 1 + kq]! = v := ⟨_, rfl⟩
              have hu' : dk[kp + 1 + (kq + 1)]! = u := by rw [HI.out.high _ (by omega)]; exact hu
              have hv' : dk[kp + 1 + kq]! = v := by rw [HI.out.high _ (by omega)]; exact hv
              have hcls : ∀ n' os', grow ((sortWorldK enc 3 w blk off n2 dk os2).drewN n') os' = sortWorldK enc 3 w blk off (n2 + n') dk (os2 ++ os') := fun n' os' => sortWorldK_grown_c enc 3 w blk off n2 n' dk os2 os'
              have hHc : ∀ n' os', HoldsK enc 3 (grow ((sortWorldK enc 3 w blk off n2 dk os2).drewN n') os') blk off dk := fun n' os' => by rw [hcls]; exact holdsK_sortWorldK_c enc 3 w blk off d dk _ _ HH.out HBk.out hds
              have hb : Below w0.heap.size w0 (sortWorldK enc 3 w blk off n2 dk os2) := below_sortW HW.out HN.out HNw.out
              have hbs : w0.heap.size ≤ (sortWorldK enc 3 w blk off n2 dk os2).heap.size := Nat.le_trans HNw.out (size_sortWorldK_c enc 3 w blk off n2 dk os2)
              have hcg : ∀ n' os', Calls Try.prog 58 #[u.1.val, v.1.val] (grow ((sortWorldK enc 3 w blk off n2 dk os2).drewN n') os') fun e w' => e = .returned (.bool (eqE u v)) ∧ ∃ q os'', w' = grow ((grow ((sortWorldK enc 3 w blk off n2 dk os2).drewN n') os').drewN q) os'' := fun n' os' => same_in u v _ (below_class hb hbs n' os')
              have a1 : off + (kp + 1 + (kq + 1)) * 3 = off + (kp + 1) * 3 + (kq + 1) * 3 := by omega
              have a2 : off + (kp + 1 + kq) * 3 = off + (kp + 1) * 3 + kq * 3 := by omega
              have cu : ∀ n' os', _ := fun n' os' => holdsK_cell (hHc n' os') (show kp + 1 + (kq + 1) < dk.size by omega) hu'
              have cv : ∀ n' os', _ := fun n' os' => holdsK_cell (hHc n' os') (show kp + 1 + kq < dk.size by omega) hv'
              rw [a1] at cu
              rw [a2] at cv
              have c0 := fun n' os' => (cu n' os').1
              have c1 := fun n' os' => (cu n' os').2.1
              have c2 := fun n' os' => (cu n' os').2.2.1
              have f0 := fun n' os' => (cv n' os').1
              have f1 := fun n' os' => (cv n' os').2.1
              have f2 := fun n' os' => (cv n' os').2.2.1
              obtain ⟨F0, hF0⟩ : ∃ F, F = flatK enc 3 dk := ⟨_, rfl⟩
              have hFs : F0.size = d.size * 3 := by rw [hF0, size_flatK, hds]
              have hG0 : ∀ n' os', Holds id (grow ((sortWorldK enc 3 w blk off n2 dk os2).drewN n') os') blk off F0 := fun n' os' => by rw [hF0]; exact hHc n' os'
              have hG1 : ∀ n' os', Holds id ((grow ((sortWorldK enc 3 w blk off n2 dk os2).drewN n') os').setCell ⟨blk, off + kk * 3, none⟩ (.int .i64 u.1.at_)) blk off (setMany F0 (kk * 3) [(.int .i64 u.1.at_)]) := fun n' os' => holds_setCells_c (hG0 n' os') (kk * 3) [(.int .i64 u.1.at_)] (by rw [hFs]; show kk * 3 + 1 ≤ _; omega)
              have hG2 : ∀ n' os', Holds id (((grow ((sortWorldK enc 3 w blk off n2 dk os2).drewN n') os').setCell ⟨blk, off + kk * 3, none⟩ (.int .i64 u.1.at_)).setCell ⟨blk, off + kk * 3 + 1, none⟩ (.slice u.1.A u.1.ls.length u.1.c)) blk off (setMany F0 (kk * 3) [(.int .i64 u.1.at_), (.slice u.1.A u.1.ls.length u.1.c)]) := fun n' os' => holds_setCells_c (hG0 n' os') (kk * 3) [(.int .i64 u.1.at_), (.slice u.1.A u.1.ls.length u.1.c)] (by rw [hFs]; show kk * 3 + 2 ≤ _; omega)
              obtain ⟨z0, hz0⟩ : ∃ z, z = F0[kk * 3]! := ⟨_, rfl⟩
              have g0 : ∀ n' os', (grow ((sortWorldK enc 3 w blk off n2 dk os2).drewN n') os').cell? ⟨blk, off + kk * 3, none⟩ = some z0 := fun n' os' => by rw [hz0]; exact (hG0 n' os' (kk * 3) (by rw [hFs]; omega)).1
              have k0 : ∀ n' os', (grow ((sortWorldK enc 3 w blk off n2 dk os2).drewN n') os').frozen? ⟨blk, off + kk * 3, none⟩ = false := fun n' os' => (hG0 n' os' (kk * 3) (by rw [hFs]; omega)).2
              obtain ⟨z1, hz1⟩ : ∃ z, z = (setMany F0 (kk * 3) [(.int .i64 u.1.at_)])[kk * 3 + 1]! := ⟨_, rfl⟩
              have g1 : ∀ n' os', ((grow ((sortWorldK enc 3 w blk off n2 dk os2).drewN n') os').setCell ⟨blk, off + kk * 3, none⟩ (.int .i64 u.1.at_)).cell? ⟨blk, off + kk * 3 + 1, none⟩ = some z1 := fun n' os' => by rw [hz1]; exact (hG1 n' os' (kk * 3 + 1) (by rw [size_setMany]; rw [hFs]; omega)).1
              have k1 : ∀ n' os', ((grow ((sortWorldK enc 3 w blk off n2 dk os2).drewN n') os').setCell ⟨blk, off + kk * 3, none⟩ (.int .i64 u.1.at_)).frozen? ⟨blk, off + kk * 3 + 1, none⟩ = false := fun n' os' => (hG1 n' os' (kk * 3 + 1) (by rw [size_setMany]; rw [hFs]; omega)).2
              obtain ⟨z2, hz2⟩ : ∃ z, z = (setMany F0 (kk * 3) [(.int .i64 u.1.at_), (.slice u.1.A u.1.ls.length u.1.c)])[kk * 3 + 2]! := ⟨_, rfl⟩
              have g2 : ∀ n' os', (((grow ((sortWorldK enc 3 w blk off n2 dk os2).drewN n') os').setCell ⟨blk, off + kk * 3, none⟩ (.int .i64 u.1.at_)).setCell ⟨blk, off + kk * 3 + 1, none⟩ (.slice u.1.A u.1.ls.length u.1.c)).cell? ⟨blk, off + kk * 3 + 2, none⟩ = some z2 := fun n' os' => by rw [hz2]; exact (hG2 n' os' (kk * 3 + 2) (by rw [size_setMany]; rw [hFs]; omega)).1
              have k2 : ∀ n' os', (((grow ((sortWorldK enc 3 w blk off n2 dk os2).drewN n') os').setCell ⟨blk, off + kk * 3, none⟩ (.int .i64 u.1.at_)).setCell ⟨blk, off + kk * 3 + 1, none⟩ (.slice u.1.A u.1.ls.length u.1.c)).frozen? ⟨blk, off + kk * 3 + 2, none⟩ = false := fun n' os' => (hG2 n' os' (kk * 3 + 2) (by rw [size_setMany]; rw [hFs]; omega)).2
              have SW : Aside0 (∀ n' os', (grow ((sortWorldK enc 3 w blk off n2 dk os2).drewN n') os').setCells blk (off + kk * 3) (enc u) = sortWorldK enc 3 w blk off (n2 + n') (dk.setIfInBounds kk u) (os2 ++ os')) := ⟨fun n' os' => store_in HBk.out (hcls n' os') (by omega) u⟩
              have CLS := Aside0.mk hcls
              clear hcls hHc hb hbs cu cv a1 a2 hHk
              clear hG0 hG1 hG2 hF0 hFs hz0 hz1 hz2
              generalize hwq : sortWorldK enc 3 w blk off n2 dk os2 = wq at c0 c1 c2 f0 f1 f2 hcg CLS g0 g1 g2 k0 k1 k2 SW ⊢
              have HUV : Aside0 (d[kp + 1 + (kq + 1)]! = u ∧ d[kp + 1 + kq]! = v) := ⟨hu, hv⟩
              clear hu hv hu' hv' hwq
              obtain ⟨bq, hbq⟩ : ∃ b, b = eqE u v := ⟨_, rfl⟩
              rw [← hbq] at hcg
              have HQ2 := Aside0.mk hbq
              clear hbq
              by_cases hdup : bq = true
              · subst hdup
                go_wp2_with fail
                go_quiet_grown (first | (go_at_fn 58; refine Calls.grown_of (hcg _ _)))
                go_wp2_with fail
                go_roundg (d.size - (kp + 1 + (kq + 1 + 1)))
                case measure => omega
                case rel => exact ⟨kk, kq + 1 + 1, n2 + nq, dk, os2 ++ osq, rfl, by go_num, by omega, by omega, Nat.le_refl _, CLS.out nq osq, ⟨HI.out.skip (by omega) (by rw [HUV.out.1, show kp + 1 + (kq + 1) - 1 = kp + 1 + kq by omega, HUV.out.2]; exact HQ2.out.symm)⟩⟩
              · have hdup : bq = false := by simpa using hdup
                subst hdup
                go_wp2_with fail
                go_quiet_grown (first | (go_at_fn 58; refine Calls.grown_of (hcg _ _)))
                go_wp2_with fail
                go_roundg (d.size - (kp + 1 + (kq + 1 + 1)))
                case measure => omega
                case rel =>
                  refine ⟨kk + 1, kq + 1 + 1, n2 + nq, dk.setIfInBounds kk u, os2 ++ osq, by go_num, by go_num, by omega, by omega, Nat.le_refl _, SW.out nq osq, ⟨?_⟩⟩
                  have := HI.out.keep hlt2 (by rw [HUV.out.1, show kp + 1 + (kq + 1) - 1 = kp + 1 + kq by omega, HUV.out.2]; exact HQ2.out.symm)
                  rw [HUV.out.1] at this
                  exact this
            · have hend : kp + 1 + k2 = d.size := by omega
              have hkd : kk < d.size := by omega
              have hcl : ∀ ty, _ := fun ty => run_clear_row (sortWorldK enc 3 w blk off n2 dk os2) ty blk off (kk * 3) (d.size - kk) (cap - kk) (flatK enc 3 dk) hHk (by rw [size_flatK]; omega) (by omega)
              obtain ⟨zs, hzs⟩ : ∃ zs, zs = (Builtin.zeroCells #[Value.int .i64 0, .slice none 0 0, .string ⟨#[]⟩] (d.size - kk)).toList := ⟨_, rfl⟩
              rw [← hzs] at hcl
              have hzl : kk * 3 + zs.length ≤ (flatK enc 3 dk).size := by rw [hzs, Array.length_toList, size_zeroCells, size_flatK]; show kk * 3 + (d.size - kk) * 3 ≤ _; omega
              have hE : Aside0 ((once eqE d d.size).length = kk ∧ RowE ((sortWorldK enc 3 w blk off n2 dk os2).setCells blk (off + kk * 3) zs) blk off (once eqE d d.size)) := ⟨by
                have hI := HI.out
                rw [hend] at hI
                refine ⟨hI.len, fun i x hx => ?_⟩
                have hi : i < kk := by
                  rcases Nat.lt_or_ge i kk with h | h
                  · exact h
                  · rw [List.getElem?_eq_none (by rw [hI.len]; exact h)] at hx; cases hx
                have hx' : dk[i]! = x := by rw [hI.low i hi, List.getElem!_eq_getElem?_getD, hx]; rfl
                have h2 := holds_setCells_c hHk (kk * 3) zs hzl
                have c : ∀ r, r < 3 → ((sortWorldK enc 3 w blk off n2 dk os2).setCells blk (off + kk * 3) zs).cell? ⟨blk, off + i * 3 + r, none⟩ = some (enc x)[r]! := fun r hr => by
                  have h3 := (h2 (i * 3 + r) (by rw [size_setMany, size_flatK]; omega)).1
                  rw [get_setMany _ _ _ _ (by rw [size_flatK]; omega), if_neg (by omega), get_flatK _ _ _ _ (by omega), show (i * 3 + r) / 3 = i by omega, show (i * 3 + r) % 3 = r by omega, hx', ← Nat.add_assoc] at h3
                  exact h3
                exact ⟨c 0 (by omega), c 1 (by omega), c 2 (by omega)⟩⟩
              have hB : Aside0 (Below w0.heap.size w0 ((sortWorldK enc 3 w blk off n2 dk os2).setCells blk (off + kk * 3) zs)) := ⟨by
                have e : (sortWorldK enc 3 w blk off n2 dk os2).setCells blk (off + kk * 3) zs = putRow id (sortWorldK enc 3 w blk off n2 dk os2) blk off (setMany (flatK enc 3 dk) (kk * 3) zs) := by
                  conv => lhs; rw [← putRow_self id _ blk off (flatK enc 3 dk) hHk]
                  exact setCells_putRow _ _ _ _ _ _ hzl
                rw [e]
                exact below_putRow (below_sortW HW.out HN.out HNw.out) HN.out⟩
              clear hHk hzs hzl hds
              generalize sortWorldK enc 3 w blk off n2 dk os2 = wq at hcl hE hB ⊢
              go_wp2
              go_ret
              exact ⟨by rw [hE.out.1]; rfl, hB.out, hE.out.2⟩
        · have hdup : bq = false := by simpa using hdup
          subst hdup
          go_wp2_with fail
          go_quiet_grown (first | (go_at_fn 58; refine Calls.grown_of (hcg _ _)))
          go_wp2_with fail
          go_roundg (d.size - (kp + 1 + 1))
          case measure => omega
          case rel =>
            refine ⟨kp + 1 + 1, n + nq, os ++ osq, by omega, by omega, Nat.le_refl _, by go_num, CLS.out nq osq, ⟨fun j h0 h1 => ?_⟩⟩
            by_cases e : j = kp + 1
            · subst e
              rw [HXY.out.1, show kp + 1 - 1 = kp from rfl, HXY.out.2]
              exact HQ.out.symm
            · exact HK.out j h0 (by omega)
      · have : k = d.size := by omega
        subst this
        have hHk : HoldsK enc 3 (sortWorldK enc 3 w blk off n d os) blk off d := holdsK_sortWorldK_c enc 3 w blk off d d _ _ HH.out HBk.out rfl
        have HE := Aside0.mk (HALL.out HK.out _ hHk)
        have hb : Below w0.heap.size w0 (sortWorldK enc 3 w blk off n d os) := below_sortW HW.out HN.out HNw.out
        have HB := Aside0.mk hb
        clear hHk hb
        go_wp2
        go_ret
        exact ⟨by rw [HE.out.1]; rfl, HB.out, HE.out.2⟩
end Go.Proofs.Ytfejjfbhlmjkeaa.C
set_option linter.unusedVariables false
set_option linter.unusedSimpArgs false
namespace Go.Proofs.Ytfejjfbhlmjkeaa.C
open Go.RowKit Go.Sort Go.Proofs.YtfejjfbhlmjkeaaW.PrintWords Go.Proofs.YtfejjfbhlmjkeaaW.PrintLast Go.Proofs.YtfejjfbhlmjkeaaW.PrintMore Go.Proofs.Ytfejjfbhlmjkeaa.B Go.Proofs.Ytfejjfbhlmjkeaa.PRecordIs Go.Proofs.Ytfejjfbhlmjkeaa.CQ
/-- Which of two comes first, in an order. -/
def cmpO (desc : Bool) (x y : Key) : Int := if desc then cmpE y x else cmpE x y
theorem cmpO_c (desc : Bool) : Cmp (cmpO desc) := by
  cases desc
  · exact cmpE_c
  · exact cmpE_c.turned
theorem eqE_iff {w : World} (x y : EntIn w) : eqE x y = true ↔ keyOf x = keyOf y := by
  unfold eqE
  rw [beq_iff_eq, cmpE_c.eq0]
section
variable {w : World} (d : Array (EntIn w))
theorem once_mem : ∀ m, m ≤ d.size → ∀ k, k ∈ (once eqE d m).map keyOf ↔ ∃ i, i < m ∧ keyOf d[i]! = k
  | 0, _, k => by simp [once]
  | m + 1, hm, k => by
    have ih := once_mem m (by omega) k
    simp only [once]
    split
    · rename_i h
      rw [ih]
      constructor
      · rintro ⟨i, hi, e⟩; exact ⟨i, by omega, e⟩
      · rintro ⟨i, hi, e⟩
        by_cases him : i = m
        · subst him
          exact ⟨i - 1, by omega, by rw [← (eqE_iff _ _).1 h.2]; exact e⟩
        · exact ⟨i, by omega, e⟩
    · rw [List.map_append, List.mem_append, ih]
      simp only [List.map_cons, List.map_nil, List.mem_singleton]
      constructor
      · rintro (⟨i, hi, e⟩ | e)
        · exact ⟨i, by omega, e⟩
        · exact ⟨m, by omega, e.symm⟩
      · rintro ⟨i, hi, e⟩
        by_cases him : i = m
        · subst him; exact Or.inr e.symm
        · exact Or.inl ⟨i, by omega, e⟩
theorem once_up {c : Key → Key → Int} (hc : Cmp c) (hs : ∀ i j, i < j → j < d.size → ¬ c (keyOf d[j]!) (keyOf d[i]!) < 0) : ∀ m, m ≤ d.size → Up c ((once eqE d m).map keyOf)
  | 0, _ => List.Pairwise.nil
  | m + 1, hm => by
    have ih := once_up hc hs m (by omega)
    simp only [once]
    split
    · exact ih
    · rename_i h
      rw [List.map_append]
      refine List.pairwise_append.2 ⟨ih, List.pairwise_singleton _ _, fun k hk y hy => ?_⟩
      simp only [List.map_cons, List.map_nil, List.mem_singleton] at hy
      subst hy
      obtain ⟨i, hi, rfl⟩ := (once_mem d m (by omega) k).1 hk
      have h1 := hs i m hi (by omega)
      have t := hc.tri (keyOf d[m]!) (keyOf d[i]!)
      have an := hc.anti (keyOf d[m]!) (keyOf d[i]!)
      have ne : ¬ c (keyOf d[m]!) (keyOf d[i]!) = 0 := fun e0 => by
        have e1 := (hc.eq0 _ _).1 e0
        refine h ⟨by omega, (eqE_iff _ _).2 ?_⟩
        by_cases him : i = m - 1
        · subst him; exact e1
        · have h2 := hs i (m - 1) (by omega) (by omega)
          have h3 := hs (m - 1) m (by omega) (by omega)
          rw [e1] at h3 ⊢
          have t2 := hc.tri (keyOf d[i]!) (keyOf d[m - 1]!)
          have an2 := hc.anti (keyOf d[i]!) (keyOf d[m - 1]!)
          exact (hc.eq0 _ _).1 (by omega)
      omega
end
theorem swo_of {α β : Type} {c : β → β → Int} (h : Cmp c) (key : α → β) : Go.Sort.SWO (ltOf fun x y : α => c (key x) (key y)) where
  irrefl x := by
    show decide (c (key x) (key x) < 0) = false
    rw [(h.eq0 _ _).2 rfl]; rfl
  trans x y z a b := by
    unfold ltOf at *
    simp only [decide_eq_true_eq] at *
    have p := h.tri (key x) (key y)
    have q := h.tri (key y) (key z)
    have e := h.trans (key x) (key y) (key z) (by omega) (by omega)
    omega
  ntrans x y z a b := by
    unfold ltOf at *
    simp only [decide_eq_false_iff_not] at *
    intro k
    have p := h.tri (key x) (key y)
    have q := h.tri (key y) (key z)
    have r := h.tri (key x) (key z)
    have p' := h.anti (key x) (key y)
    have q' := h.anti (key y) (key z)
    by_cases p0 : c (key x) (key y) = 0
    · rw [(h.eq0 _ _).1 p0] at k; omega
    · by_cases q0 : c (key y) (key z) = 0
      · rw [← (h.eq0 _ _).1 q0] at k; omega
      · have e := h.trans (key z) (key y) (key x) (by omega) (by omega)
        have r' := h.anti (key z) (key x)
        omega
/-- slices.Clone of a row that isn't nil. -/
def flatE {w0 : World} (l : List (EntIn w0)) : List Value := l.flatMap enc
theorem flatE_get {w0 : World} : ∀ (l : List (EntIn w0)) (i r : Nat) (x : EntIn w0), r < 3 → l[i]? = some x → (flatE l)[i * 3 + r]? = some (enc x)[r]!
  | [], _, _, _, _, h => by simp at h
  | y :: l, 0, r, x, hr, h => by
    simp only [List.getElem?_cons_zero, Option.some.injEq] at h
    subst h
    unfold flatE
    rw [List.flatMap_cons, List.getElem?_append_left (by rw [enc_len]; omega)]
    match r, hr with
    | 0, _ => rfl
    | 1, _ => rfl
    | 2, _ => rfl
  | y :: l, i + 1, r, x, hr, h => by
    have ih := flatE_get l i r x hr (by simpa using h)
    unfold flatE at *
    rw [List.flatMap_cons, List.getElem?_append_right (by rw [enc_len]; omega), enc_len, show (i + 1) * 3 + r - 3 = i * 3 + r by omega]
    exact ih
theorem flatE_len {w0 : World} : ∀ l : List (EntIn w0), (flatE l).length = l.length * 3
  | [] => rfl
  | y :: l => by
    have ih := flatE_len l
    unfold flatE at *
    rw [List.flatMap_cons, List.length_append, ih, enc_len, List.length_cons]; omega
theorem flatE_inv {w0 : World} (l : List (EntIn w0)) (j : Nat) (u : Value) (h : (flatE l)[j]? = some u) : ∃ x, l[j / 3]? = some x ∧ u = (enc x)[j % 3]! := by
  have hj : j < l.length * 3 := by
    rw [← flatE_len]
    rcases Nat.lt_or_ge j (flatE l).length with h1 | h1
    · exact h1
    · rw [List.getElem?_eq_none h1] at h; cases h
  have hi : j / 3 < l.length := by omega
  refine ⟨l[j / 3], List.getElem?_eq_getElem hi, ?_⟩
  have h2 := flatE_get l (j / 3) (j % 3) l[j / 3] (by omega) (List.getElem?_eq_getElem hi)
  rw [show j / 3 * 3 + j % 3 = j by omega, h] at h2
  exact Option.some.inj h2
theorem infoE : (Try.prog.info? 34).map (fun i => (i.zero, i.size, i.bytes)) = some (some (.agg #[.int .i64 0, .slice none 0 0, .string ⟨#[]⟩]), 3, 48) := by kernel_rfl
theorem clone_any {w0 : World} (l : List (EntIn w0)) (b off c : Nat) (hrow : RowE w0 b off l) (hm : l.length ≤ 100000) :
    Calls Try.prog 55 #[.slice (some ⟨b, off, none⟩) l.length c] w0 fun e w' => ∃ g cap, e = .returned (.slice (some ⟨g, 0, none⟩) l.length cap) ∧ w0.heap.size ≤ g ∧ g < w'.heap.size ∧ l.length ≤ cap ∧ HoldsK enc 3 w' g 0 l.toArray ∧ Below w0.heap.size w0 w' := by
  obtain ⟨i0, hi, hp⟩ := Option.map_eq_some_iff.1 infoE
  have hz0 : i0.zero = some (.agg #[.int .i64 0, .slice none 0 0, .string ⟨#[]⟩]) := (Prod.mk.injEq .. ▸ hp).1
  have hp2 := (Prod.mk.injEq .. ▸ hp).2
  have hz1 : i0.size = 3 := (Prod.mk.injEq .. ▸ hp2).1
  have hz2 : i0.bytes = 48 := (Prod.mk.injEq .. ▸ hp2).2
  have hcon := AnyE.slices_Clone Try.cloneEnt i0 _ 3 48 hi hz0 hz1 hz2 rfl (by omega) (fun w => Try.sizeOf34 w) b off l.length c (flatE l) w0 (flatE_len l) (by unfold maxLen; omega) (by omega)
    (fun j u hu => by
      obtain ⟨x, hx, rfl⟩ := flatE_inv l j u hu
      obtain ⟨h0, h1, h2⟩ := hrow _ x hx
      have h3 : j % 3 = 0 ∨ j % 3 = 1 ∨ j % 3 = 2 := by omega
      rcases h3 with h3 | h3 | h3
      · rw [show off + j = off + j / 3 * 3 by omega, h3]; exact h0
      · rw [show off + j = off + j / 3 * 3 + 1 by omega, h3]; exact h1
      · rw [show off + j = off + j / 3 * 3 + 2 by omega, h3]; exact h2)
    (fun u hu => by
      unfold flatE at hu
      obtain ⟨x, _, hx⟩ := List.mem_flatMap.1 hu
      exact enc_one x u hx)
  change Calls Try.prog 55 _ _ _ at hcon
  refine hcon.mono ?_
  rintro e w' ⟨v', rfl, hown, hne, hb⟩
  obtain ⟨hl, hv | ⟨g, cap, cur, rfl, hg0, hg, hc1, hc2, hsz, htk⟩⟩ := hown
  · exact absurd hv.1 hne
  · have hown : w'.ownsRow w0.heap.size 34 3 (.slice (some ⟨g, 0, none⟩) l.length cap) l.length (flatE l) := ⟨hl, Or.inr ⟨g, cap, cur, rfl, hg0, hg, hc1, hc2, hsz, htk⟩⟩
    refine ⟨g, cap, rfl, hg0, blk_lt hg, hc1, fun t ht => ?_, hb⟩
    rw [size_flatK, List.size_toArray] at ht
    rw [Nat.zero_add, hown.cellAt t ht, get_flatK _ _ _ _ (by rw [List.size_toArray]; exact ht)]
    refine ⟨?_, hown.frozenAt t⟩
    have h2 := flatE_get l (t / 3) (t % 3) l[t / 3] (by omega) (List.getElem?_eq_getElem (by omega))
    rw [show t / 3 * 3 + t % 3 = t by omega] at h2
    rw [h2]
    have e : l.toArray[t / 3]! = l[t / 3] := by rw [getElem!_pos l.toArray (t / 3) (by rw [List.size_toArray]; omega)]; rfl
    rw [e]
    rfl
/-- Which function an order is. -/
def ordF (desc : Bool) : Nat := if desc then 54 else 22
theorem ord_in (desc : Bool) {w0 : World} (x y : EntIn w0) (V : World) (h : Below w0.heap.size w0 V) : Calls Try.prog (ordF desc) #[x.1.val, y.1.val] V fun e w' => e = .returned (.int .i64 (cmpO desc (keyOf x) (keyOf y))) ∧ ∃ q os', w' = grow (V.drewN q) os' := by
  cases desc
  · exact (compare_any x.1 y.1 V (x.2.below h) (y.2.below h)).mono fun _ _ ⟨he, hb⟩ => ⟨he, hb.grow⟩
  · exact (turned_any x.1 y.1 V (x.2.below h) (y.2.below h)).mono fun _ _ ⟨he, hb⟩ => ⟨he, hb.grow⟩
theorem ord_enters (desc : Bool) : ∀ args w, (callFunc (ordF desc) args).run Try.prog w = .ok (.enter (ordF desc) args) w := by
  cases desc
  · exact enters_of Try.func22 (by kernel_rfl) rfl
  · exact enters_of Try.func54 (by kernel_rfl) rfl
theorem sortfunc_any {w0 w : World} (desc : Bool) (l : List (EntIn w0)) (g cap : Nat) (hm : l.length ≤ 100000) (hw : Below w0.heap.size w0 w) (hn : w0.heap.size ≤ g) (hg : g < w.heap.size) (hH : HoldsK enc 3 w g 0 l.toArray) :
    Calls Try.prog 56 #[.slice (some ⟨g, 0, none⟩) l.length cap, .func (.func (ordF desc)) #[] #[]] w fun e w' =>
      e = .returned (.tuple #[]) ∧ ∃ d : Array (EntIn w0), d.size = l.length ∧ d.toList.Perm l ∧ (∀ i j, i < j → j < d.size → ¬ cmpO desc (keyOf d[j]!) (keyOf d[i]!) < 0) ∧ HoldsK enc 3 w' g 0 d ∧ Below w0.heap.size w0 w' ∧ g < w'.heap.size := by
  have hcmp : CmpLays Try.prog (ordF desc) #[] (enc (w := w0)) 3 (fun x y => cmpO desc (keyOf x) (keyOf y)) g 0 l.toArray.size w := fun m os dk _ x y => by
    exact ord_in desc x y _ (below_sortW hw hn (Nat.le_trans hn (Nat.le_of_lt hg)))
  have hcon := AnyQ.slices_SortFunc Try.sortEnt 3 Try.isAgg34 Try.sizeOf34 (enc (w := w0)) enc_len enc_one (fun x y => cmpO desc (keyOf x) (keyOf y)) (swo_of (cmpO_c desc) keyOf) (ordF desc) #[] g 0 cap l.toArray w (ord_enters desc) hcmp hH hg (by rw [List.size_toArray]; omega)
  change Calls Try.prog 56 _ _ _ at hcon
  rw [List.size_toArray] at hcon
  refine hcon.mono ?_
  rintro e w' ⟨rfl, d, n, os, hp, hs, rfl⟩
  have hsz : d.size = l.length := by have := hp.1; rwa [List.size_toArray] at this
  refine ⟨rfl, d, hsz, ?_, fun i j hij hj => ?_, holdsK_sortWorldK_c enc 3 w g 0 l.toArray d n os hH hg hp.1, below_sortW hw hn (Nat.le_trans hn (Nat.le_of_lt hg)), Nat.lt_of_lt_of_le hg (size_sortWorldK_c enc 3 w g 0 n d os)⟩
  · have h3 := hp.2.2
    rw [← hsz, Array.extract_size, hsz] at h3
    have e2 : l.toArray.extract 0 l.length = l.toArray := by
      have := Array.extract_size (xs := l.toArray)
      rwa [List.size_toArray] at this
    rw [e2] at h3
    exact h3
  · have h4 := hs i j (Nat.zero_le _) hij (by omega)
    unfold ltOf at h4
    simpa using h4
end Go.Proofs.Ytfejjfbhlmjkeaa.C
set_option linter.unusedVariables false
set_option linter.unusedSimpArgs false
namespace Go.Proofs.Ytfejjfbhlmjkeaa.C
open Go.RowKit Go.Sort Go.Proofs.YtfejjfbhlmjkeaaW.PrintWords Go.Proofs.YtfejjfbhlmjkeaaW.PrintLast Go.Proofs.YtfejjfbhlmjkeaaW.PrintMore Go.Proofs.Ytfejjfbhlmjkeaa.B Go.Proofs.Ytfejjfbhlmjkeaa.PRecordIs Go.Proofs.Ytfejjfbhlmjkeaa.CQ
theorem order_any (desc : Bool) (w : World) : Calls Try.prog 23 #[.bool desc] w fun e w' => e = .returned (.func (.func (ordF desc)) #[] #[]) ∧ w' = w := by
  cases desc
  · go_enter Try.func23, Try.ntmps23
    go_wp2
    go_ret
    exact ⟨rfl, rfl⟩
  · go_enter Try.func23, Try.ntmps23
    go_wp2
    go_ret
    exact ⟨rfl, rfl⟩
set_option maxRecDepth 20000 in
theorem sort_any {w0 : World} (desc : Bool) (l : List (EntIn w0)) (b off c : Nat) (hrow : RowE w0 b off l) (hm : l.length ≤ 100000) :
    Calls Try.prog 25 #[.bool desc, .slice (some ⟨b, off, none⟩) l.length c] w0 fun e w' => ∃ g cap, ∃ r : List (EntIn w0), e = .returned (.slice (some ⟨g, 0, none⟩) r.length cap) ∧ w0.heap.size ≤ g ∧ r.length ≤ cap ∧ r.length ≤ l.length ∧ RowE w' g 0 r ∧ Below w0.heap.size w0 w' ∧ Up (cmpO desc) (r.map keyOf) ∧ ∀ k, k ∈ r.map keyOf ↔ k ∈ l.map keyOf := by
  have HR := Aside0.mk hrow
  have HM := Aside0.mk hm
  clear hrow hm
  go_enter Try.func25, Try.ntmps25
  go_wp2_with fail
  ((refine (clone_any l b off c HR.out HM.out).mono ?_); rintro e w1 ⟨g, cap, rfl, hg0, hg1, hcap, hH, hB⟩)
  have HG0 := Aside0.mk hg0
  have HG1 := Aside0.mk hg1
  have HCap := Aside0.mk hcap
  have HH := Aside0.mk hH
  have HB := Aside0.mk hB
  clear hg0 hg1 hcap hH hB
  go_wp2_with fail
  ((refine (order_any desc _).mono ?_); rintro e w2 ⟨rfl, rfl⟩)
  go_wp2_with fail
  ((refine (sortfunc_any desc l g cap HM.out HB.out HG0.out HG1.out HH.out).mono ?_); rintro e w3 ⟨rfl, d, hsz, hp, hs, hH3, hB3, hg3⟩)
  have HS := Aside0.mk hsz
  have HP := Aside0.mk hp
  have HSo := Aside0.mk hs
  have HC := compact_any (w := w3) g 0 cap d hB3 HG0.out hg3 hH3 (by rw [hsz]; have := HM.out; omega) (by rw [hsz]; exact HCap.out)
  rw [hsz] at HC
  have HC := Aside0.mk HC
  clear hsz hp hs hH3 hB3 hg3 HH HB HG1
  go_wp2_with fail
  ((refine HC.out.mono ?_); rintro e w4 ⟨rfl, hB4, hrow4⟩)
  have HB4 := Aside0.mk hB4
  have HR4 := Aside0.mk hrow4
  clear hB4 hrow4
  go_wp2_with fail
  go_ret
  have hl := once_len eqE d l.length
  have hs := HS.out
  refine ⟨g, cap, once eqE d l.length, rfl, HG0.out, Nat.le_trans hl HCap.out, hl, HR4.out, HB4.out, once_up d (cmpO_c desc) (fun i j h1 h2 => Int.not_lt.2 (HSo.out i j h1 h2)) _ (by omega), fun k => ?_⟩
  rw [once_mem d _ (by omega)]
  rw [List.mem_map]
  constructor
  · rintro ⟨i, hi, rfl⟩
    refine ⟨d[i]!, HP.out.mem_iff.1 ?_, rfl⟩
    rw [getElem!_pos d i (by omega)]
    exact Array.mem_toList_iff.2 (Array.getElem_mem (by omega))
  · rintro ⟨x, hx, rfl⟩
    have hx2 := HP.out.mem_iff.2 hx
    obtain ⟨i, hi, rfl⟩ := Array.mem_iff_getElem.1 (Array.mem_toList_iff.1 hx2)
    exact ⟨i, by omega, by rw [getElem!_pos d i hi]⟩
end Go.Proofs.Ytfejjfbhlmjkeaa.C
set_option linter.unusedVariables false
set_option linter.unusedSimpArgs false
namespace Go.Proofs.Ytfejjfbhlmjkeaa.C
open Go.RowKit Go.Proofs.YtfejjfbhlmjkeaaW.PrintWords Go.Proofs.YtfejjfbhlmjkeaaW.PrintLast Go.Proofs.YtfejjfbhlmjkeaaW.PrintMore Go.Proofs.Ytfejjfbhlmjkeaa.B Go.Proofs.Ytfejjfbhlmjkeaa.Reg Go.Proofs.Ytfejjfbhlmjkeaa.PRecordIs Go.Proofs.Ytfejjfbhlmjkeaa.CQ Go.Proofs.Ytfejjfbhlmjkeaa.Vi Go.Proofs.Ytfejjfbhlmjkeaa.N Go.Proofs.Ytfejjfbhlmjkeaa.Bt
/-- What may turn: what lies from n on, but for block j. -/
structure Kj (n j : Nat) (w w' : World) : Prop where
  below : Below n w w'
  box : w'.heap[j]? = w.heap[j]?
theorem Kj.refl {n j : Nat} (w : World) : Kj n j w w := ⟨Below.refl _ _, rfl⟩
theorem Kj.trans {n j : Nat} {a b c : World} (h : Kj n j a b) (k : Kj n j b c) : Kj n j a c := ⟨h.below.trans k.below, k.box.trans h.box⟩
theorem Kj.drew {n j : Nat} {a b : World} (h : Kj n j a b) : Kj n j a (b.drewN 1) := ⟨pw_below_drewN h.below 1, h.box⟩
theorem Kj.of {n j : Nat} {a b : World} {v : Value} (h : a.grownBy b v.ownBlock) (hn : n ≤ a.heap.size) (hv : ∀ k, v.ownBlock = some k → n ≤ k) (hj : j < a.heap.size) (hne : v.ownBlock ≠ some j) : Kj n j a b :=
  ⟨(Below.refl n a).grown h hn hv, h.block j hj (Ne.symm hne)⟩
theorem Kj.at {n j : Nat} {a b : World} {o : Obj} (h : Kj n j a b) (k : a.heap[j]? = some o) : b.heap[j]? = some o := h.box.trans k
/-- A text's bytes, with how long it is. -/
def txt (s : ByteArray) : List UInt8 := vint s.size ++ s.data.toList
def labB (xs : List S47) : List UInt8 := xs.flatMap fun x => txt x.f0 ++ txt x.f1
def putB (xs : List S47) : List UInt8 := vint xs.length ++ labB xs
def entB (k : Key) : List UInt8 := vint (zig k.at_) ++ (putB k.ls ++ txt k.line)
/-- No text of a row is too long. -/
def Short (xs : List S47) : Prop := xs.length ≤ 1000 ∧ ∀ x ∈ xs, x.f0.size ≤ 100000 ∧ x.f1.size ≤ 100000
theorem txt_len {s : ByteArray} (h : s.size ≤ 100000) : (txt s).length ≤ 100010 := by
  unfold txt
  have := vint_le10 (n := s.size) (by omega)
  have h2 : s.data.toList.length = s.size := Array.length_toList
  rw [List.length_append]; omega
theorem labB_len : ∀ xs : List S47, (∀ x ∈ xs, x.f0.size ≤ 100000 ∧ x.f1.size ≤ 100000) → (labB xs).length ≤ xs.length * 200020
  | [], _ => Nat.le_refl _
  | x :: xs, h => by
    have ih := labB_len xs fun y hy => h y (List.mem_cons_of_mem _ hy)
    have h0 := h x (List.mem_cons_self ..)
    have a := txt_len h0.1
    have b := txt_len h0.2
    unfold labB at *
    rw [List.flatMap_cons, List.length_append, List.length_append, List.length_cons]; omega
theorem labB_take (xs : List S47) (i : Nat) (h : i < xs.length) : labB (xs.take (i + 1)) = labB (xs.take i) ++ (txt xs[i].f0 ++ txt xs[i].f1) := by
  unfold labB
  rw [List.take_succ_eq_append_getElem h, List.flatMap_append]
  simp
theorem take_len (xs : List S47) (hs : Short xs) (i : Nat) : (labB (xs.take i)).length ≤ 200020000 := by
  have h1 := labB_len (xs.take i) fun x hx => hs.2 x (List.mem_of_mem_take hx)
  have h2 : (xs.take i).length ≤ xs.length := by rw [List.length_take]; omega
  have h3 := hs.1
  have : (xs.take i).length * 200020 ≤ 1000 * 200020 := Nat.mul_le_mul_right _ (by omega)
  omega
theorem grown_box {w w' : World} {row : Option Nat} {j : Nat} {o : Obj} (h : w.grownBy w' row) (hj : j < w.heap.size) (hne : row ≠ some j) (k : w.heap[j]? = some o) : w'.heap[j]? = some o := (h.block j hj (Ne.symm hne)).trans k
def T_record_put_5 : Bool × List (List Nat × List Nat) := (true, [([], []), ([], []), ([1], [1]), ([0, 2], [0, 2]), ([], []), ([4], [4]), ([3, 5, 3], [3, 5]), ([6, 6, 0, 1, 2, 3, 4, 5, 6], [0, 6])])
def B_record_put_5 : List Nat := [0, 0, 2, 7, 0, 16, 63, 127]
theorem tab_record_put_5 : rtab .any (opsOf Try.f60 5) = T_record_put_5 := by kernel_rfl
theorem bits_record_put_5 : waitsOk T_record_put_5.2 B_record_put_5 = true := by kernel_rfl
set_option maxRecDepth 20000 in
set_option maxHeartbeats 2000000 in
theorem put_any {w0 w : World} (v : Value) (l : List UInt8) (xs : List S47) (A : Option Addr) (c : Nat) (hw : Below w0.heap.size w0 w) (hx : Kd.C k47 w0 A xs.length xs) (hs : Short xs) (hO : Own w w0.heap.size 5 v (cs l)) (hl : l.length ≤ 1000000) :
    Calls Try.prog 60 #[v, .slice A xs.length c] w fun e w' => ∃ v', e = .returned v' ∧ Own w' w0.heap.size 5 v' (cs (l ++ putB xs)) ∧ w.grownBy w' v.ownBlock ∧ Near w v v' := by
  obtain ⟨n0, hn0⟩ : ∃ n, n = w0.heap.size := ⟨_, rfl⟩
  have HX : Aside0 (∀ V, Below n0 w0 V → Kd.C k47 V A xs.length xs) := ⟨fun V h => Kd.C_below hx (hn0 ▸ h)⟩
  rw [← hn0] at hw hO ⊢
  have HSh := Aside0.mk hs
  have HL := Aside0.mk hl
  have hsz : n0 ≤ w.heap.size := by rw [hn0]; exact hw.size
  have HU := Aside0.mk (uint_at (x := (xs.length : Int)) xs.length rfl hO hsz (by omega) (by have := hs.1; omega))
  have HBw : Aside0 (∀ V, w.grownBy V v.ownBlock → Below n0 w0 V) := ⟨fun V h => hw.grown h hsz (fun k hk => (hO.lt k hk).1)⟩
  have Hsz := Aside0.mk hsz
  have hu : IntKind.u64.wrap (xs.length : Int) = (xs.length : Int) := by rw [u64_wrap]; have := hs.1; omega
  clear hx hn0 hw hO hsz hs hl
  go_enter Try.func60, Try.ntmps60
  go_wp2_with fail
  ((refine HU.out.mono ?_); rintro e w1 ⟨v1, rfl, h1, h2, h3⟩)
  have HO : Aside0 (Own w1 n0 5 v1 (cs (l ++ (vint xs.length ++ labB (xs.take 0))))) := ⟨by rw [show labB (xs.take 0) = [] from rfl, List.append_nil]; exact h1⟩
  have HG := Aside0.mk h2
  have HN := Aside0.mk h3
  clear h1 h2 h3 HU hu
  go_wp2
  go_loopw [0, 14] (fun t0_ t14 wr => ∃ (i : Nat) (u : Value), i ≤ xs.length ∧ u = t0_ ∧ t14 = .int .i64 (i : Int) ∧ Aside0 (Own wr n0 5 u (cs (l ++ (vint xs.length ++ labB (xs.take i))))) ∧ Aside0 (w.grownBy wr v.ownBlock) ∧ Aside0 (Near w v u)) (fun _ t14 _ => xs.length - (intOf t14).toNat)
  case atStart => exact ⟨0, _, Nat.zero_le _, rfl, rfl, HO, HG, HN⟩
  case round =>
    clear HO HG HN
    obtain ⟨i, t0, hi, rfl, rfl, HO, HG, HN⟩ := hrel
    by_cases hlt : i < xs.length
    · have d1 : decide (i < xs.length) = true := decide_eq_true hlt
      obtain ⟨ad, hA, k0, k1⟩ := at_T47 (HX.out _ (HBw.out _ HG.out)) (i : Int) (by omega) (by omega)
      subst hA
      rw [Int.toNat_natCast] at k0 k1
      rw [at47 hlt] at k0 k1
      have HT := Aside0.mk (labB_take xs i hlt)
      have HSx := Aside0.mk (HSh.out.2 xs[i] (List.getElem_mem hlt))
      obtain ⟨x, hxe⟩ : ∃ x, x = xs[i] := ⟨_, rfl⟩
      rw [← hxe] at k0 k1 HT HSx
      obtain ⟨x0, x1⟩ := x
      clear hxe
      dsimp only at k0 k1 HT HSx
      obtain ⟨l', hl'⟩ : ∃ l', l' = l ++ (vint xs.length ++ labB (xs.take i)) := ⟨_, rfl⟩
      rw [← hl'] at HO
      have HL' : Aside0 (l'.length ≤ 300000000) := ⟨by
        have h1 := take_len xs HSh.out i
        have h2 := vint_le10 (n := xs.length) (by have := HSh.out.1; omega)
        have h3 := HL.out
        rw [hl', List.length_append, List.length_append]; omega⟩
      have HT2 : Aside0 (l ++ (vint xs.length ++ labB (xs.take (i + 1))) = l' ++ txt x0 ++ txt x1) := ⟨by rw [HT.out, hl']; simp only [List.append_assoc]⟩
      clear hl' HT
      obtain ⟨W, hW⟩ : ∃ W, W = wr.alloc (.cells #[.string x0, .string x1] 47) := ⟨_, rfl⟩
      have HZ : Aside0 (n0 ≤ wr.heap.size) := ⟨Nat.le_trans Hsz.out HG.out.size⟩
      have HGW : Aside0 (w.grownBy W v.ownBlock) := ⟨by rw [hW]; exact grown_alloc HG.out _⟩
      obtain ⟨j, hj⟩ : ∃ j, j = wr.heap.size := ⟨_, rfl⟩
      have HB : Aside0 (World.grownBy W W t0.ownBlock) := ⟨grown_refl _ _⟩
      have X0 : Aside0 (W.heap[j]? = some (.cells #[.string x0, .string x1] 47)) := ⟨by rw [hW, hj]; exact Go.heap_alloc_new _ _⟩
      have Hne : Aside0 (t0.ownBlock ≠ some j) := ⟨fun e => by
        have := (HO.out.lt j e).2
        omega⟩
      have HO : Aside0 (Own W n0 5 t0 (cs l')) := ⟨by rw [hW]; exact HO.out.alloc _⟩
      have Hj : Aside0 (j < W.heap.size ∧ n0 ≤ W.heap.size) := ⟨by rw [hW, hj]; have := HZ.out; simp; omega⟩
      have HwW : Aside0 (w.heap.size ≤ W.heap.size) := ⟨HGW.out.size⟩
      have HW := Aside0.mk hW
      have HJ := Aside0.mk hj
      have Hlt := Aside0.mk hlt
      clear hW hj hi
      go_wp2_with fail
      try rw [← HW.out]
      try rw [← HJ.out]
      clear HW HJ
      refine start_ (n := 8) (S := fun x_ => World.grownBy W x_ t0.ownBlock) (ds := []) #[false, false, false, false, false, false, false, false] (by kernel_rfl) rfl rfl (grown_drewN (grown_refl _ t0.ownBlock) 1) (fun hHeld => ?_)
      refine with_tabW tab_record_put_5 bits_record_put_5 (fun HT_ HW_ => ?_)
      have HB := Aside0.mk (grown_drewN HB.out 1)
      change Aside0 (World.grownBy _ (World.drew W) _) at HB
      change World.grownBy _ (World.drew W) _ at hHeld
      have hSz : (World.drew W).heap.size = W.heap.size := rfl
      have HB : Aside0 (World.grownBy (World.drew W) (World.drew W) t0.ownBlock) := ⟨grown_refl _ _⟩
      have X0 := Aside0.mk (show (World.drew W).heap[j]? = _ from X0.out)
      have HO := Aside0.mk (show Own (World.drew W) n0 5 t0 (cs l') from HO.out)
      have Hj := Aside0.mk (show j < (World.drew W).heap.size ∧ n0 ≤ (World.drew W).heap.size from Hj.out)
      have HGW := Aside0.mk (show w.grownBy (World.drew W) v.ownBlock from grown_drewN HGW.out 1)
      have HwW := Aside0.mk (show w.heap.size ≤ (World.drew W).heap.size from HwW.out)
      refine wpAnyLast_str (S' := fun x_ => World.grownBy (World.drew W) x_ t0.ownBlock) (fun x_ hx_ => World.grownBy.trans hHeld hx_) (grown_refl _ t0.ownBlock) ?_
      clear hHeld hSz
      generalize World.drew W = Wd at *
      have HS := Aside0.mk (grown_refl Wd t0.ownBlock)
      refine pure_ (i := 0) (N := (some 18)) (v := ?_) (a' := ?_) #[true, false, false, false, false, false, false, false] rfl rfl (any_of HT_.out (by kernel_rfl)) (fun _ _ _ h => h) (Or.inl ⟨by rfl, ?_⟩) ?_ ?_
      rotate_left
      · intro w_
        go_simp
        try with_reducible rfl
      rotate_left
      · simp only [Act.put, List.setIfInBounds_toArray, List.set_cons_zero, List.set_cons_succ, i64_w, i32_w]
        rfl
      refine pure_ (i := 1) (N := (some 19)) (v := ?_) (a' := ?_) #[true, true, false, false, false, false, false, false] rfl rfl (any_of HT_.out (by kernel_rfl)) (fun _ _ _ h => h) (Or.inl ⟨by rfl, ?_⟩) ?_ ?_
      rotate_left
      · intro w_
        go_simp
        try with_reducible rfl
      rotate_left
      · simp only [Act.put, List.setIfInBounds_toArray, List.set_cons_zero, List.set_cons_succ, i64_w, i32_w]
        rfl
      refine pure_ (i := 4) (N := (some 22)) (v := ?_) (a' := ?_) #[true, true, false, false, true, false, false, false] rfl rfl (any_of HT_.out (by kernel_rfl)) (fun _ _ _ h => h) (Or.inl ⟨by rfl, ?_⟩) ?_ ?_
      rotate_left
      · intro w_
        go_simp
        try with_reducible rfl
      rotate_left
      · simp only [Act.put, List.setIfInBounds_toArray, List.set_cons_zero, List.set_cons_succ, i64_w, i32_w]
        rfl
      refine take_ (i := 2) (N := (some 20)) (v := ?_) (a' := ?_) #[true, true, true, false, true, false, false, false] rfl rfl (take_ofW HT_.out HW_.out (by kernel_rfl)) (fun _ _ _ h => h) (Or.inl ⟨by rfl, ?_⟩) (grown_refl _ t0.ownBlock) ?_ ?_
      rotate_left
      · intro Wx hWx
        have hc := (blk_cell (grown_box hWx Hj.out.1 Hne.out X0.out) 0).trans rfl
        go_simp
        try with_reducible rfl
      rotate_left
      · simp only [Act.put, List.setIfInBounds_toArray, List.set_cons_zero, List.set_cons_succ, i64_w, i32_w]
        rfl
      refine take_ (i := 5) (N := (some 23)) (v := ?_) (a' := ?_) #[true, true, true, false, true, true, false, false] rfl rfl (take_ofW HT_.out HW_.out (by kernel_rfl)) (fun _ _ _ h => h) (Or.inl ⟨by rfl, ?_⟩) (grown_refl _ t0.ownBlock) ?_ ?_
      rotate_left
      · intro Wx hWx
        have hc := (blk_cell (grown_box hWx Hj.out.1 Hne.out X0.out) 1).trans rfl
        go_simp
        try with_reducible rfl
      rotate_left
      · simp only [Act.put, List.setIfInBounds_toArray, List.set_cons_zero, List.set_cons_succ, i64_w, i32_w]
        rfl
      refine one_ (i := 3) (N := (some 21)) #[true, true, true, true, true, true, false, false] rfl rfl (one_of HT_.out (by kernel_rfl)) (by decide) (fun K hK => ?_)
      refine goes_ Try.func65 (by kernel_rfl) rfl #[t0, .string x0] (by rfl) rfl rfl (by (try simp only [List.map_toArray, List.map_cons, List.map_nil]); first | done | rfl) ?_
      refine (text_any n0 t0 l' x0 Wd HO.out Hj.out.2 (by have := HL'.out; omega) (by have := HSx.out.1; omega)).mono ?_
      rintro e w5_3 ⟨v2, rfl, h2_, h3_, h4_⟩
      refine ⟨_, rfl, ?_⟩
      have HN2 := Aside0.mk h4_
      have HO := Aside0.mk h2_
      have HSz := Aside0.mk h3_.size
      have Hj2 := Aside0.mk (Nat.le_trans Hj.out.2 h3_.size)
      have hb_ : World.grownBy Wd w5_3 t0.ownBlock := h3_
      have HB := Aside0.mk (World.grownBy.trans HB.out hb_)
      refine hK.out _ _ hb_ (fun hHeld => ?_)
      clear hK K
      refine wpAnyLast_str (S' := fun x_ => World.grownBy w5_3 x_ v2.ownBlock) (fun x_ hx_ => grown_then hHeld hx_ HN2.out) (grown_refl _ v2.ownBlock) ?_
      clear hHeld
      (try clear hb)
      clear hb_
      have HS := Aside0.mk (grown_refl w5_3 v2.ownBlock)
      refine norm_ (a' := ?_) ?_ ?_
      rotate_left
      · show Act.put _ (some 21) _ = _
        simp only [Act.put, List.setIfInBounds_toArray, List.set_cons_zero, List.set_cons_succ, i64_w, i32_w]
        rfl
      refine one_ (i := 6) (N := (some 24)) #[true, true, true, true, true, true, true, false] rfl rfl (one_of HT_.out (by kernel_rfl)) (by decide) (fun K hK => ?_)
      refine goes_ Try.func65 (by kernel_rfl) rfl #[v2, .string x1] (by rfl) rfl rfl (by (try simp only [List.map_toArray, List.map_cons, List.map_nil]); first | done | rfl) ?_
      refine (text_any n0 v2 (l' ++ txt x0) x1 w5_3 HO.out Hj2.out (by have := HL'.out; have := txt_len HSx.out.1; rw [List.length_append]; omega) (by have := HSx.out.2; omega)).mono ?_
      rintro e w5_6 ⟨v3, rfl, h2_, h3_, h4_⟩
      refine ⟨_, rfl, ?_⟩
      have HN3 := Aside0.mk (HN2.out.trans h4_ HSz.out)
      have HO := Aside0.mk h2_
      have hb_ : World.grownBy w5_3 w5_6 v2.ownBlock := h3_
      have HB := Aside0.mk (grown_then HB.out hb_ HN2.out)
      refine hK.out _ _ hb_ (fun hHeld => ?_)
      clear hK K
      refine wpAnyLast_str (S' := fun x_ => World.grownBy w5_6 x_ v2.ownBlock) (fun x_ hx_ => World.grownBy.trans hHeld hx_) (grown_refl _ v2.ownBlock) ?_
      clear hHeld
      (try clear hb)
      clear hb_
      have HS := Aside0.mk (grown_refl w5_6 v2.ownBlock)
      refine norm_ (a' := ?_) ?_ ?_
      rotate_left
      · show Act.put _ (some 24) _ = _
        simp only [Act.put, List.setIfInBounds_toArray, List.set_cons_zero, List.set_cons_succ, i64_w, i32_w]
        rfl
      refine pure_ (i := 7) (N := (some 0)) (v := ?_) (a' := ?_) #[true, true, true, true, true, true, true, true] rfl rfl (any_of HT_.out (by kernel_rfl)) (fun _ _ _ h => h) (Or.inl ⟨by rfl, ?_⟩) ?_ ?_
      rotate_left
      · intro w_
        go_simp
        try with_reducible rfl
      rotate_left
      · simp only [Act.put, List.setIfInBounds_toArray, List.set_cons_zero, List.set_cons_succ, i64_w, i32_w]
        rfl
      refine done_ (done_of HT_.out (by kernel_rfl)) ?_
      go_wp2_with fail
      go_roundw
      case rel =>
        have h1 := Hlt.out
        have h2 := HSh.out.1
        exact ⟨i + 1, v3, by omega, rfl, by rw [w64_in _ (by omega)]; rfl, ⟨by rw [HT2.out]; exact HO.out⟩, ⟨grown_then HGW.out HB.out HN.out⟩, ⟨HN.out.trans HN3.out HwW.out⟩⟩
      case measure => have h1 := Hlt.out; have h2 := HSh.out.1; rw [w64_in _ (by omega)]; simp [intOf]; omega
    · have d1 : decide (i < xs.length) = false := decide_eq_false hlt
      have hi2 : i = xs.length := by omega
      have HO2 : Aside0 (Own wr n0 5 t0 (cs (l ++ putB xs))) := ⟨by have := HO.out; rw [hi2, List.take_length] at this; exact this⟩
      clear hi2 HO hlt hi
      go_wp2
      go_ret
      exact ⟨t0, rfl, HO2.out, HG.out, HN.out⟩
theorem putB_len (xs : List S47) (hs : Short xs) : (putB xs).length ≤ 200030000 := by
  have h1 := take_len xs hs xs.length
  rw [List.take_length] at h1
  have h2 := vint_le10 (n := xs.length) (by have := hs.1; omega)
  unfold putB
  rw [List.length_append]; omega
def T_record_Put_1 : Bool × List (List Nat × List Nat) := (true, [([], []), ([], []), ([1], [1]), ([0, 2], [0, 2]), ([], []), ([4], [4]), ([3, 5, 3], [3, 5]), ([], []), ([7], [7]), ([6, 8, 6], [6, 8]), ([9, 9, 0, 1, 2, 3, 4, 5, 6, 7, 8, 9], [9])])
def B_record_Put_1 : List Nat := [0, 0, 2, 7, 0, 16, 63, 0, 128, 511, 1023]
theorem tab_record_Put_1 : rtab .any (opsOf Try.f37 1) = T_record_Put_1 := by kernel_rfl
theorem bits_record_Put_1 : waitsOk T_record_Put_1.2 B_record_Put_1 = true := by kernel_rfl
set_option maxRecDepth 20000 in
set_option maxHeartbeats 2000000 in
theorem putE_any {w0 w : World} (v : Value) (l : List UInt8) (x : Ent) (hw : Below w0.heap.size w0 w) (hx : x.In w0) (hs : Short x.ls) (hln : x.line.size ≤ 1000000) (h0 : -9223372036854775808 ≤ x.at_ ∧ x.at_ ≤ 9223372036854775807) (hO : Own w w0.heap.size 5 v (cs l)) (hl : l.length ≤ 10000) :
    Calls Try.prog 37 #[v, x.val] w fun e w' => ∃ v', e = .returned v' ∧ Own w' w0.heap.size 5 v' (cs (l ++ entB x.key)) ∧ w.grownBy w' v.ownBlock ∧ Near w v v' := by
  have HX := Aside0.mk hx.lies
  have HSh := Aside0.mk hs
  have HLn := Aside0.mk hln
  have H0 := Aside0.mk h0
  have HL := Aside0.mk hl
  clear hx hs hln h0 hl
  obtain ⟨x0, xA, xc, xl, x2⟩ := x
  unfold Ent.val
  dsimp only at HX HSh HLn H0 ⊢
  obtain ⟨n0, hn0⟩ : ∃ n, n = w0.heap.size := ⟨_, rfl⟩
  have hsz : n0 ≤ w.heap.size := by rw [hn0]; exact hw.size
  have HP : Aside0 (∀ (V : World) (u : Value) (m : List UInt8), Below n0 w0 V → Own V n0 5 u (cs m) → m.length ≤ 1000000 → Calls Try.prog 60 #[u, .slice xA xl.length xc] V fun e w' => ∃ v', e = .returned v' ∧ Own w' n0 5 v' (cs (m ++ putB xl)) ∧ V.grownBy w' u.ownBlock ∧ Near V u v') := ⟨fun V u m h1 h2 h3 => by
    rw [hn0] at h1 h2 ⊢
    exact put_any u m xl xA xc h1 HX.out HSh.out h2 h3⟩
  rw [← hn0] at hw hO ⊢
  obtain ⟨W, hW⟩ : ∃ W, W = w.alloc (.cells #[.int .i64 x0, .slice xA xl.length xc, .string x2] 34) := ⟨_, rfl⟩
  obtain ⟨j, hj⟩ : ∃ j, j = w.heap.size := ⟨_, rfl⟩
  have HBw : Aside0 (∀ V, w.grownBy V v.ownBlock → Below n0 w0 V) := ⟨fun V h => hw.grown h hsz (fun k hk => (hO.lt k hk).1)⟩
  have HGW : Aside0 (w.grownBy W v.ownBlock) := ⟨by rw [hW]; exact grown_alloc (grown_refl _ _) _⟩
  have HB : Aside0 (World.grownBy W W v.ownBlock) := ⟨grown_refl _ _⟩
  have X0 : Aside0 (W.heap[j]? = some (.cells #[.int .i64 x0, .slice xA xl.length xc, .string x2] 34)) := ⟨by rw [hW, hj]; exact Go.heap_alloc_new _ _⟩
  have Hne : Aside0 (v.ownBlock ≠ some j) := ⟨fun e => by
    have := (hO.lt j e).2
    omega⟩
  have HO : Aside0 (Own W n0 5 v (cs l)) := ⟨by rw [hW]; exact hO.alloc _⟩
  have Hj : Aside0 (j < W.heap.size ∧ n0 ≤ W.heap.size) := ⟨by rw [hW, hj]; simp; omega⟩
  have HwW : Aside0 (w.heap.size ≤ W.heap.size) := ⟨HGW.out.size⟩
  have HW := Aside0.mk hW
  have HJ := Aside0.mk hj
  clear hW hj hw hO hsz HX hn0
  go_enter Try.func37, Try.ntmps37
  go_wp2_with fail
  try rw [← HW.out]
  try rw [← HJ.out]
  clear HW HJ
  refine start_ (n := 11) (S := fun x_ => World.grownBy W x_ v.ownBlock) (ds := []) #[false, false, false, false, false, false, false, false, false, false, false] (by kernel_rfl) rfl rfl (grown_drewN (grown_refl _ v.ownBlock) 1) (fun hHeld => ?_)
  refine with_tabW tab_record_Put_1 bits_record_Put_1 (fun HT_ HW_ => ?_)
  have HB := Aside0.mk (grown_drewN HB.out 1)
  change Aside0 (World.grownBy _ (World.drew W) _) at HB
  change World.grownBy _ (World.drew W) _ at hHeld
  have hSz : (World.drew W).heap.size = W.heap.size := rfl
  have HB : Aside0 (World.grownBy (World.drew W) (World.drew W) v.ownBlock) := ⟨grown_refl _ _⟩
  have X0 := Aside0.mk (show (World.drew W).heap[j]? = _ from X0.out)
  have HO := Aside0.mk (show Own (World.drew W) n0 5 v (cs l) from HO.out)
  have Hj := Aside0.mk (show j < (World.drew W).heap.size ∧ n0 ≤ (World.drew W).heap.size from Hj.out)
  have HGW := Aside0.mk (show w.grownBy (World.drew W) v.ownBlock from grown_drewN HGW.out 1)
  have HwW := Aside0.mk (show w.heap.size ≤ (World.drew W).heap.size from HwW.out)
  refine wpAnyLast_str (S' := fun x_ => World.grownBy (World.drew W) x_ v.ownBlock) (fun x_ hx_ => World.grownBy.trans hHeld hx_) (grown_refl _ v.ownBlock) ?_
  clear hHeld hSz
  generalize World.drew W = Wd at *
  have HS := Aside0.mk (grown_refl Wd v.ownBlock)
  refine pure_ (i := 0) (N := (some 5)) (v := ?_) (a' := ?_) #[true, false, false, false, false, false, false, false, false, false, false] rfl rfl (any_of HT_.out (by kernel_rfl)) (fun _ _ _ h => h) (Or.inl ⟨by rfl, ?_⟩) ?_ ?_
  rotate_left
  · intro w_
    go_simp
    try with_reducible rfl
  rotate_left
  · simp only [Act.put, List.setIfInBounds_toArray, List.set_cons_zero, List.set_cons_succ, i64_w, i32_w]
    rfl
  refine pure_ (i := 1) (N := (some 6)) (v := ?_) (a' := ?_) #[true, true, false, false, false, false, false, false, false, false, false] rfl rfl (any_of HT_.out (by kernel_rfl)) (fun _ _ _ h => h) (Or.inl ⟨by rfl, ?_⟩) ?_ ?_
  rotate_left
  · intro w_
    go_simp
    try with_reducible rfl
  rotate_left
  · simp only [Act.put, List.setIfInBounds_toArray, List.set_cons_zero, List.set_cons_succ, i64_w, i32_w]
    rfl
  refine pure_ (i := 4) (N := (some 9)) (v := ?_) (a' := ?_) #[true, true, false, false, true, false, false, false, false, false, false] rfl rfl (any_of HT_.out (by kernel_rfl)) (fun _ _ _ h => h) (Or.inl ⟨by rfl, ?_⟩) ?_ ?_
  rotate_left
  · intro w_
    go_simp
    try with_reducible rfl
  rotate_left
  · simp only [Act.put, List.setIfInBounds_toArray, List.set_cons_zero, List.set_cons_succ, i64_w, i32_w]
    rfl
  refine pure_ (i := 7) (N := (some 12)) (v := ?_) (a' := ?_) #[true, true, false, false, true, false, false, true, false, false, false] rfl rfl (any_of HT_.out (by kernel_rfl)) (fun _ _ _ h => h) (Or.inl ⟨by rfl, ?_⟩) ?_ ?_
  rotate_left
  · intro w_
    go_simp
    try with_reducible rfl
  rotate_left
  · simp only [Act.put, List.setIfInBounds_toArray, List.set_cons_zero, List.set_cons_succ, i64_w, i32_w]
    rfl
  refine take_ (i := 2) (N := (some 7)) (v := ?_) (a' := ?_) #[true, true, true, false, true, false, false, true, false, false, false] rfl rfl (take_ofW HT_.out HW_.out (by kernel_rfl)) (fun _ _ _ h => h) (Or.inl ⟨by rfl, ?_⟩) (grown_refl _ v.ownBlock) ?_ ?_
  rotate_left
  · intro Wx hWx
    have hc := (blk_cell (grown_box hWx Hj.out.1 Hne.out X0.out) 0).trans rfl
    go_simp
    try with_reducible rfl
  rotate_left
  · simp only [Act.put, List.setIfInBounds_toArray, List.set_cons_zero, List.set_cons_succ, i64_w, i32_w]
    rfl
  refine take_ (i := 5) (N := (some 10)) (v := ?_) (a' := ?_) #[true, true, true, false, true, true, false, true, false, false, false] rfl rfl (take_ofW HT_.out HW_.out (by kernel_rfl)) (fun _ _ _ h => h) (Or.inl ⟨by rfl, ?_⟩) (grown_refl _ v.ownBlock) ?_ ?_
  rotate_left
  · intro Wx hWx
    have hc := (blk_cell (grown_box hWx Hj.out.1 Hne.out X0.out) 1).trans rfl
    go_simp
    try with_reducible rfl
  rotate_left
  · simp only [Act.put, List.setIfInBounds_toArray, List.set_cons_zero, List.set_cons_succ, i64_w, i32_w]
    rfl
  refine take_ (i := 8) (N := (some 13)) (v := ?_) (a' := ?_) #[true, true, true, false, true, true, false, true, true, false, false] rfl rfl (take_ofW HT_.out HW_.out (by kernel_rfl)) (fun _ _ _ h => h) (Or.inl ⟨by rfl, ?_⟩) (grown_refl _ v.ownBlock) ?_ ?_
  rotate_left
  · intro Wx hWx
    have hc := (blk_cell (grown_box hWx Hj.out.1 Hne.out X0.out) 2).trans rfl
    go_simp
    try with_reducible rfl
  rotate_left
  · simp only [Act.put, List.setIfInBounds_toArray, List.set_cons_zero, List.set_cons_succ, i64_w, i32_w]
    rfl
  refine one_ (i := 3) (N := (some 8)) #[true, true, true, true, true, true, false, true, true, false, false] rfl rfl (one_of HT_.out (by kernel_rfl)) (by decide) (fun K hK => ?_)
  refine goes_ Try.func66 (by kernel_rfl) rfl #[v, .int .i64 x0] (by rfl) rfl rfl (by (try simp only [List.map_toArray, List.map_cons, List.map_nil]); first | done | rfl) ?_
  refine (int_any n0 v l x0 Wd HO.out Hj.out.2 (by have := HL.out; omega) H0.out.1 H0.out.2).mono ?_
  rintro e w1_3 ⟨v2, rfl, h2_, h3_, h4_⟩
  refine ⟨_, rfl, ?_⟩
  have HN2 := Aside0.mk h4_
  have HO := Aside0.mk h2_
  have HSz := Aside0.mk h3_.size
  have HG2 := Aside0.mk (HGW.out.trans h3_)
  have Hj2 := Aside0.mk (Nat.le_trans Hj.out.2 h3_.size)
  have hb_ : World.grownBy Wd w1_3 v.ownBlock := h3_
  have HB := Aside0.mk (World.grownBy.trans HB.out hb_)
  refine hK.out _ _ hb_ (fun hHeld => ?_)
  clear hK K
  refine wpAnyLast_str (S' := fun x_ => World.grownBy w1_3 x_ v2.ownBlock) (fun x_ hx_ => grown_then hHeld hx_ HN2.out) (grown_refl _ v2.ownBlock) ?_
  clear hHeld
  (try clear hb)
  clear hb_
  have HS := Aside0.mk (grown_refl w1_3 v2.ownBlock)
  refine norm_ (a' := ?_) ?_ ?_
  rotate_left
  · show Act.put _ (some 8) _ = _
    simp only [Act.put, List.setIfInBounds_toArray, List.set_cons_zero, List.set_cons_succ, i64_w, i32_w]
    rfl
  refine one_ (i := 6) (N := (some 11)) #[true, true, true, true, true, true, true, true, true, false, false] rfl rfl (one_of HT_.out (by kernel_rfl)) (by decide) (fun K hK => ?_)
  refine goes_ Try.func60 (by kernel_rfl) rfl #[v2, .slice xA xl.length xc] (by rfl) rfl rfl (by (try simp only [List.map_toArray, List.map_cons, List.map_nil]); first | done | rfl) ?_
  refine (HP.out w1_3 v2 (l ++ vint (zig x0)) (HBw.out _ HG2.out) HO.out (by have := HL.out; have := vint_le10 (zig_lt H0.out.1 H0.out.2); rw [List.length_append]; omega)).mono ?_
  rintro e w1_6 ⟨v3, rfl, h2_, h3_, h4_⟩
  refine ⟨_, rfl, ?_⟩
  have HN3 := Aside0.mk (HN2.out.trans h4_ HSz.out)
  have HO := Aside0.mk h2_
  have HSz := Aside0.mk (Nat.le_trans HSz.out h3_.size)
  have Hj2 := Aside0.mk (Nat.le_trans Hj2.out h3_.size)
  have HN23 := Aside0.mk h4_
  have hb_ : World.grownBy w1_3 w1_6 v2.ownBlock := h3_
  have HB := Aside0.mk (grown_then HB.out hb_ HN2.out)
  refine hK.out _ _ hb_ (fun hHeld => ?_)
  clear hK K
  refine wpAnyLast_str (S' := fun x_ => World.grownBy w1_6 x_ v3.ownBlock) (fun x_ hx_ => grown_then hHeld hx_ HN23.out) (grown_refl _ v3.ownBlock) ?_
  clear hHeld
  (try clear hb)
  clear hb_
  have HS := Aside0.mk (grown_refl w1_6 v3.ownBlock)
  refine norm_ (a' := ?_) ?_ ?_
  rotate_left
  · show Act.put _ (some 11) _ = _
    simp only [Act.put, List.setIfInBounds_toArray, List.set_cons_zero, List.set_cons_succ, i64_w, i32_w]
    rfl
  refine one_ (i := 9) (N := (some 14)) #[true, true, true, true, true, true, true, true, true, true, false] rfl rfl (one_of HT_.out (by kernel_rfl)) (by decide) (fun K hK => ?_)
  refine goes_ Try.func65 (by kernel_rfl) rfl #[v3, .string x2] (by rfl) rfl rfl (by (try simp only [List.map_toArray, List.map_cons, List.map_nil]); first | done | rfl) ?_
  refine (text_any n0 v3 (l ++ vint (zig x0) ++ putB xl) x2 w1_6 HO.out Hj2.out (by have := HL.out; have := putB_len xl HSh.out; have := vint_le10 (zig_lt H0.out.1 H0.out.2); rw [List.length_append, List.length_append]; omega) (by have := HLn.out; omega)).mono ?_
  rintro e w1_9 ⟨v4, rfl, h2_, h3_, h4_⟩
  refine ⟨_, rfl, ?_⟩
  have HN4 := Aside0.mk (HN3.out.trans h4_ HSz.out)
  have HO := Aside0.mk h2_
  have hb_ : World.grownBy w1_6 w1_9 v3.ownBlock := h3_
  have HB := Aside0.mk (grown_then HB.out hb_ HN3.out)
  refine hK.out _ _ hb_ (fun hHeld => ?_)
  clear hK K
  refine wpAnyLast_str (S' := fun x_ => World.grownBy w1_9 x_ v3.ownBlock) (fun x_ hx_ => World.grownBy.trans hHeld hx_) (grown_refl _ v3.ownBlock) ?_
  clear hHeld
  (try clear hb)
  clear hb_
  have HS := Aside0.mk (grown_refl w1_9 v3.ownBlock)
  refine norm_ (a' := ?_) ?_ ?_
  rotate_left
  · show Act.put _ (some 14) _ = _
    simp only [Act.put, List.setIfInBounds_toArray, List.set_cons_zero, List.set_cons_succ, i64_w, i32_w]
    rfl
  refine pure_ (i := 10) (N := (some 4)) (v := ?_) (a' := ?_) #[true, true, true, true, true, true, true, true, true, true, true] rfl rfl (any_of HT_.out (by kernel_rfl)) (fun _ _ _ h => h) (Or.inl ⟨by rfl, ?_⟩) ?_ ?_
  rotate_left
  · intro w_
    go_simp
    try with_reducible rfl
  rotate_left
  · simp only [Act.put, List.setIfInBounds_toArray, List.set_cons_zero, List.set_cons_succ, i64_w, i32_w]
    rfl
  refine done_ (done_of HT_.out (by kernel_rfl)) ?_
  go_wp2_with fail
  go_ret
  refine ⟨v4, rfl, ?_, grown_then HGW.out HB.out (Near.refl _ _), (Near.refl w v).trans HN4.out HwW.out⟩
  have := HO.out
  unfold entB Ent.key
  simp only [List.append_assoc] at this ⊢
  exact this
end Go.Proofs.Ytfejjfbhlmjkeaa.C
end
section
set_option linter.unusedVariables false
set_option linter.unusedSimpArgs false
namespace Go.Proofs.Ytfejjfbhlmjkeaa.N
open Go.RowKit Go.Proofs.YtfejjfbhlmjkeaaW.PrintWords Go.Proofs.YtfejjfbhlmjkeaaW.PrintLast Go.Proofs.Ytfejjfbhlmjkeaa.Bt Go.Proofs.Ytfejjfbhlmjkeaa.B Go.Proofs.Ytfejjfbhlmjkeaa.Vi
/-- A reader's struct at block g. -/
def At (w : World) (g : Nat) (a b : Value) : Prop := w.heap[g]? = some (.cells #[a, b] 87 (0, 0))
/-- The state of a reader at block g, whose bytes lie in block b: what is left to read, or that something is wrong. -/
def RS (w : World) (g b : Nat) : Option (List UInt8) → Prop
  | some l => ∃ off c, At w g (.slice (some ⟨b, off, none⟩) l.length c) (.bool false) ∧ (∀ j (h : j < l.length), w.cell? ⟨b, off + j, none⟩ = some (bv l[j])) ∧ l.length ≤ c ∧ b ≠ g ∧ l.length ≤ 4611686018427
  | none => At w g (.slice none 0 0) (.bool true)
theorem At.free {w : World} {g : Nat} {a b : Value} (h : At w g a b) (i : Nat) : w.frozen? ⟨g, i, none⟩ = false := blk_frozen h i
theorem At.lt {w : World} {g : Nat} {a b : Value} (h : At w g a b) : g < w.heap.size := blk_lt h
theorem grown_set (w : World) (g i : Nat) (u : Value) : w.grownBy (w.setCell ⟨g, i, none⟩ u) (some g) :=
  ⟨rfl, rfl, rfl, by simp [World.setCell], fun k hk hr => Below.heap_setCell w ⟨g, i, none⟩ u k (fun e => hr (by rw [e]))⟩
/-- What is written elsewhere leaves a reader as it is. -/
theorem RS.kept {w w' : World} {g b : Nat} {st : Option (List UInt8)} {row : Option Nat} (h : RS w g b st) (hg : w.grownBy w' row) (h1 : some g ≠ row) (h2 : some b ≠ row) : RS w' g b st := by
  cases st with
  | none => exact blk_grown h hg h1
  | some l =>
    obtain ⟨off, c, ha, hc, r⟩ := h
    exact ⟨off, c, blk_grown ha hg h1, fun j hj => hg.cell (hc j hj) h2, r⟩
theorem RS.lt {w : World} {g b : Nat} {st : Option (List UInt8)} (h : RS w g b st) : g < w.heap.size := by
  cases st with
  | none => exact At.lt h
  | some l => obtain ⟨off, c, ha, _⟩ := h; exact At.lt ha
end Go.Proofs.Ytfejjfbhlmjkeaa.N
end
section
set_option linter.unusedVariables false
set_option linter.unusedSimpArgs false
namespace Go.Proofs.Ytfejjfbhlmjkeaa.N
open Go.RowKit Go.Proofs.YtfejjfbhlmjkeaaW.PrintWords Go.Proofs.YtfejjfbhlmjkeaaW.PrintLast Go.Proofs.Ytfejjfbhlmjkeaa.Bt Go.Proofs.Ytfejjfbhlmjkeaa.B Go.Proofs.Ytfejjfbhlmjkeaa.Vi
end Go.Proofs.Ytfejjfbhlmjkeaa.N
end
section
set_option linter.unusedVariables false
set_option linter.unusedSimpArgs false
namespace Go.Proofs.Ytfejjfbhlmjkeaa.N
open Go.RowKit Go.Proofs.YtfejjfbhlmjkeaaW.PrintWords Go.Proofs.YtfejjfbhlmjkeaaW.PrintLast Go.Proofs.Ytfejjfbhlmjkeaa.Bt Go.Proofs.Ytfejjfbhlmjkeaa.B Go.Proofs.Ytfejjfbhlmjkeaa.Vi
/-- Whether there is a next number, up to one. -/
def Has (most : Nat) (st : Option (List UInt8)) : Prop := ∃ p : Nat × List UInt8, st = some (vint p.1 ++ p.2) ∧ p.1 < 18446744073709551616 ∧ p.1 ≤ most
open Classical in
/-- The next number, up to one, and the state behind it. -/
noncomputable def nxt (most : Nat) (st : Option (List UInt8)) : Nat × Option (List UInt8) := if h : Has most st then (h.choose.1, some h.choose.2) else (0, none)
end Go.Proofs.Ytfejjfbhlmjkeaa.N
end
section
set_option linter.unusedVariables false
set_option linter.unusedSimpArgs false
namespace Go.Proofs.Ytfejjfbhlmjkeaa.N
open Go.RowKit Go.Proofs.YtfejjfbhlmjkeaaW.PrintWords Go.Proofs.YtfejjfbhlmjkeaaW.PrintLast Go.Proofs.Ytfejjfbhlmjkeaa.Bt Go.Proofs.Ytfejjfbhlmjkeaa.B Go.Proofs.Ytfejjfbhlmjkeaa.Vi
/-- The next text, of so many bytes at most, and the state behind it. -/
noncomputable def txt (most : Nat) (st : Option (List UInt8)) : List UInt8 × Option (List UInt8) :=
  match (nxt most st).2 with
  | none => ([], none)
  | some r => if r.length < (nxt most st).1 then ([], none) else (r.take (nxt most st).1, some (r.drop (nxt most st).1))
end Go.Proofs.Ytfejjfbhlmjkeaa.N
end
section
set_option linter.unusedVariables false
set_option linter.unusedSimpArgs false
namespace Go.Proofs.Ytfejjfbhlmjkeaa.N
open Go.RowKit Go.Proofs.YtfejjfbhlmjkeaaW.PrintWords Go.Proofs.YtfejjfbhlmjkeaaW.PrintLast Go.Proofs.Ytfejjfbhlmjkeaa.Bt Go.Proofs.Ytfejjfbhlmjkeaa.B Go.Proofs.Ytfejjfbhlmjkeaa.Vi Go.Proofs.Ytfejjfbhlmjkeaa.Reg
end Go.Proofs.Ytfejjfbhlmjkeaa.N
end
section
set_option linter.unusedVariables false
set_option linter.unusedSimpArgs false
namespace Go.Proofs.Ytfejjfbhlmjkeaa.N
open Go.RowKit Go.Proofs.YtfejjfbhlmjkeaaW.PrintWords Go.Proofs.YtfejjfbhlmjkeaaW.PrintLast Go.Proofs.Ytfejjfbhlmjkeaa.Bt Go.Proofs.Ytfejjfbhlmjkeaa.B Go.Proofs.Ytfejjfbhlmjkeaa.Vi Go.Proofs.Ytfejjfbhlmjkeaa.Reg
/-- The reference's reader at block h. -/
def Mx (w : World) (h : Nat) (S : ByteArray) (p : Nat) (bad : Bool) : Prop := w.heap[h]? = some (.cells #[.string S, .int .i64 (p : Int), .bool bad] 59 (0, 0))
theorem Mx.free {w : World} {h p : Nat} {S : ByteArray} {bad : Bool} (m : Mx w h S p bad) (i : Nat) : w.frozen? ⟨h, i, none⟩ = false := blk_frozen m i
theorem Mx.lt {w : World} {h p : Nat} {S : ByteArray} {bad : Bool} (m : Mx w h S p bad) : h < w.heap.size := blk_lt m
theorem Mx.below {w w' : World} {h p : Nat} {S : ByteArray} {bad : Bool} (m : Mx w h S p bad) (hb : Below w.heap.size w w') : Mx w' h S p bad := blk_below m hb
theorem Mx.kept {w w' : World} {h p : Nat} {S : ByteArray} {bad : Bool} {row : Option Nat} (m : Mx w h S p bad) (hg : w.grownBy w' row) (hne : some h ≠ row) : Mx w' h S p bad := blk_grown m hg hne
end Go.Proofs.Ytfejjfbhlmjkeaa.N
end
section
set_option linter.unusedVariables false
namespace Go.Proofs.Ytfejjfbhlmjkeaa.N
open Go.RowKit Go.Proofs.Ytfejjfbhlmjkeaa.Vi
/-- The value of bytes, seven bits a byte. -/
def val : List UInt8 → Nat
  | [] => 0
  | b :: t => b.toNat % 128 + 128 * val t
theorem val_snoc (l : List UInt8) (b : UInt8) : val (l ++ [b]) = val l + 128 ^ l.length * (b.toNat % 128) := by
  induction l with
  | nil => simp [val]
  | cons c l ih =>
    simp only [List.cons_append, val, ih, List.length_cons, Nat.pow_succ]
    have : 128 * (val l + 128 ^ l.length * (b.toNat % 128)) = 128 * val l + 128 ^ l.length * 128 * (b.toNat % 128) := by
      rw [Nat.mul_add, ← Nat.mul_assoc, Nat.mul_comm 128 (128 ^ l.length)]
    omega
theorem val_take {l : List UInt8} {i : Nat} (hi : i < l.length) : val (l.take (i + 1)) = val (l.take i) + 128 ^ i * (l[i].toNat % 128) := by
  rw [List.take_succ_eq_append_getElem hi, val_snoc, List.length_take, Nat.min_eq_left (by omega)]
/-- What is known at the i-th byte, where all ahead of it say that more follow. -/
def Go1 (l : List UInt8) (i : Nat) : Prop := Got l i (val (l.take i))
theorem Go1.start (l : List UInt8) : Go1 l 0 := by
  unfold Go1
  rw [List.take_zero]
  exact Got.start l
theorem Go1.more {l : List UInt8} {i : Nat} (h : Go1 l i) (hi : i < l.length) (hc : ¬ l[i].toNat < 128) : Go1 l (i + 1) := by
  have hlt : l[i].toNat < 256 := l[i].toNat_lt
  have e : l[i].toNat % 128 = l[i].toNat - 128 := by omega
  unfold Go1
  rw [val_take hi, e]
  exact Got.more h hi hc
end Go.Proofs.Ytfejjfbhlmjkeaa.N
end
section
set_option linter.unusedVariables false
set_option linter.unusedSimpArgs false
namespace Go.Proofs.Ytfejjfbhlmjkeaa.N
open Go.RowKit Go.Proofs.YtfejjfbhlmjkeaaW.PrintWords Go.Proofs.YtfejjfbhlmjkeaaW.PrintLast Go.Proofs.Ytfejjfbhlmjkeaa.Bt Go.Proofs.Ytfejjfbhlmjkeaa.B Go.Proofs.Ytfejjfbhlmjkeaa.Vi Go.Proofs.Ytfejjfbhlmjkeaa.Reg
end Go.Proofs.Ytfejjfbhlmjkeaa.N
end
section
set_option linter.unusedVariables false
set_option linter.unusedSimpArgs false
namespace Go.Proofs.Ytfejjfbhlmjkeaa.N
open Go.RowKit Go.Proofs.YtfejjfbhlmjkeaaW.PrintWords Go.Proofs.YtfejjfbhlmjkeaaW.PrintLast Go.Proofs.Ytfejjfbhlmjkeaa.Bt Go.Proofs.Ytfejjfbhlmjkeaa.B Go.Proofs.Ytfejjfbhlmjkeaa.Vi Go.Proofs.Ytfejjfbhlmjkeaa.Reg
/-- The state of the reference's reader. -/
def MR (w : World) (mb : Nat) (S : ByteArray) : Option (List UInt8) → Prop
  | some l => ∃ p, Mx w mb S p false ∧ p ≤ S.size ∧ l = S.data.toList.drop p
  | none => ∃ p, Mx w mb S p true ∧ p ≤ S.size
theorem MR.kept {w w' : World} {mb : Nat} {S : ByteArray} {st : Option (List UInt8)} {row : Option Nat} (h : MR w mb S st) (hg : w.grownBy w' row) (hne : some mb ≠ row) : MR w' mb S st := by
  cases st with
  | none => obtain ⟨p, h1, h2⟩ := h; exact ⟨p, h1.kept hg hne, h2⟩
  | some l => obtain ⟨p, h1, h2⟩ := h; exact ⟨p, h1.kept hg hne, h2⟩
theorem MR.lt {w : World} {mb : Nat} {S : ByteArray} {st : Option (List UInt8)} (h : MR w mb S st) : mb < w.heap.size := by
  cases st with
  | none => obtain ⟨p, h1, h2⟩ := h; exact h1.lt
  | some l => obtain ⟨p, h1, h2⟩ := h; exact h1.lt
end Go.Proofs.Ytfejjfbhlmjkeaa.N
end
