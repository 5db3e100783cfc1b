/- What sum.table and sum.Of compute, over whatever string. -/
import Derived.Test.YtahjpeihekphcaaPSumIsx1
import Derived.Test.YtahjpeihekphcaaCrc
import Derived.Test.YtahjpeihekphcaaSBits
import Derived.Test.YtahjpeihekphcaaB
set_option linter.unusedVariables false
set_option linter.unusedSimpArgs false
namespace Go.Proofs.Ytahjpeihekphcaa.S
open Go.RowKit Go.Proofs.YtahjpeihekphcaaW.PrintWords Go.Proofs.YtahjpeihekphcaaW.PrintLast Go.Proofs.YtahjpeihekphcaaW.PrintMore Go.Proofs.Ytahjpeihekphcaa.Bt Go.Proofs.Ytahjpeihekphcaa.B Go.Proofs.Ytahjpeihekphcaa.Crc
open Go.Proofs.Ytahjpeihekphcaa.PSumIs

theorem table_round {c : Nat} (hc : c < 4294967296) : Go.bits .xor .u32 ((c : Int) / 2) (Go.bits .and .u32 3988292384 ((-(Go.bits .and .u32 (c : Int) 1)) % 4294967296)) = ((Crc.step c : Nat) : Int) := by
  rw [and32_1 hc]
  have e2 : ((c : Int) / 2) = ((c / 2 : Nat) : Int) := by omega
  have e3 : (3988292384 : Int) = ((3988292384 : Nat) : Int) := rfl
  unfold Crc.step
  rcases Nat.mod_two_eq_zero_or_one c with h | h
  · have e : ((-((c % 2 : Nat) : Int)) % 4294967296) = ((0 : Nat) : Int) := by rw [h]; rfl
    rw [e, e3, and32 (by decide) (by decide), e2, xor32 (by omega) (by decide)]
    simp [h]
  · have e : ((-((c % 2 : Nat) : Int)) % 4294967296) = ((4294967295 : Nat) : Int) := by rw [h]; rfl
    have ea : (3988292384 &&& 4294967295 : Nat) = 3988292384 := by decide
    rw [e, e3, and32 (by decide) (by decide), ea, e2, xor32 (by omega) (by decide)]
    simp [h]
theorem wrap_small {i : Int} (h0 : 0 ≤ i) (h : i ≤ 4611686018427387904) : wrap64 (i + 1) = i + 1 := by unfold wrap64; omega
theorem table_rounds : ∀ (d k : Nat) (c : Nat) (i : Int), c < 4294967296 → 0 ≤ i → i ≤ 8 → 8 - i = d → d < k → sum_table.l0 k c i = some ((steps d c : Nat) : Int) := by
  intro d
  induction d with
  | zero =>
    intro k c i hc h0 h1 hd hk
    obtain ⟨k, rfl⟩ : ∃ m, k = m + 1 := ⟨k - 1, by omega⟩
    simp only [sum_table.l0]
    rw [if_neg (by omega)]
    rfl
  | succ d ih =>
    intro k c i hc h0 h1 hd hk
    obtain ⟨k, rfl⟩ : ∃ m, k = m + 1 := ⟨k - 1, by omega⟩
    simp only [sum_table.l0]
    rw [if_pos (by omega), table_round hc, wrap_small h0 (by omega)]
    exact ih k (Crc.step c) (i + 1) (step_lt hc) (by omega) (by omega) (by omega) (by omega)
theorem table_any (c : Nat) (hc : c < 4294967296) (w : World) : Calls Try.prog 42 #[.int .u32 (c : Int)] w fun e w' => e = .returned (.int .u32 ((steps 8 c : Nat) : Int)) ∧ Drawn0 w w' :=
  sum_table.calls 9 c _ w (table_rounds 8 9 c 0 hc (by decide) (by decide) (by decide) (by decide))

theorem table_at {x : Int} (c : Nat) (hx : x = (c : Int)) (hc : c < 4294967296) (w : World) : Calls Try.prog 42 #[.int .u32 x] w fun e w' => e = .returned (.int .u32 ((steps 8 c : Nat) : Int)) ∧ Drawn0 w w' := by
  subst hx
  exact table_any c hc w
theorem reg_snoc (n : Nat) (l : List UInt8) (b : UInt8) : reg n (l ++ [b]) = upd (reg n l) b := by rw [reg_append]; rfl
theorem take_snoc (s : ByteArray) (k : Nat) (h : k < s.size) : s.data.toList.take (k + 1) = s.data.toList.take k ++ [s[k]] := by
  rw [List.take_succ_eq_append_getElem (by simpa using h)]; rfl
theorem low_eq {n : Nat} (b : UInt8) (hn : n < 4294967296) : Go.bits .xor .u32 (Go.bits .and .u32 (n : Int) 255) ((b.toNat : Int) % 4294967296) = (((n % 256) ^^^ b.toNat : Nat) : Int) := by
  have hb := byte_lt b
  have e : ((b.toNat : Int) % 4294967296) = ((b.toNat : Nat) : Int) := by omega
  rw [and32_255 hn, e, xor32 (by omega) (by omega)]
theorem low_lt (n : Nat) (b : UInt8) : (n % 256) ^^^ b.toNat < 4294967296 := by
  have hb := byte_lt b
  have := Nat.xor_lt_two_pow (n := 8) (show n % 256 < 2 ^ 8 by omega) (show b.toNat < 2 ^ 8 by omega)
  omega
theorem upd_eq {n : Nat} (b : UInt8) (hn : n < 4294967296) : Go.bits .xor .u32 ((n : Int) / 256) ((steps 8 ((n % 256) ^^^ b.toNat) : Nat) : Int) = ((upd n b : Nat) : Int) := by
  have e : ((n : Int) / 256) = ((n / 256 : Nat) : Int) := by omega
  rw [e, xor32 (by omega) (steps_lt 8 (low_lt n b)), upd_low]
theorem not_eq {n : Nat} (hn : n < 4294967296) : Go.bits .xor .u32 IntKind.u32.max (n : Int) = ((4294967295 - n : Nat) : Int) := by
  have e : IntKind.u32.max = ((4294967295 : Nat) : Int) := by decide
  rw [e, xor32 (by decide) hn, Nat.xor_comm, ← full_sub hn]
theorem ret_u32 {a b : Int} (h : a = b) : Ending.returned (.int .u32 a) = .returned (.int .u32 b) := by rw [h]

set_option maxHeartbeats 800000 in
theorem of_any (s : ByteArray) (w : World) (hs : s.size ≤ 4611686018427387904) : Calls Try.prog 16 #[.string s] w fun e w' => e = .returned (.int .u32 ((crc s.data.toList : Nat) : Int)) ∧ Drawn0 w w' := by
  go_enter Try.func16, Try.ntmps16
  go_wp2
  go_loopw [3, 7] (fun n i wr => ∃ k : Nat, k ≤ s.size ∧ i = .int .i64 (k : Int) ∧ n = .int .u32 ((reg 4294967295 (s.data.toList.take k) : Nat) : Int) ∧ Drawn0 w wr) (fun _ i _ => s.size - (intOf i).toNat)
  case atStart => exact ⟨0, Nat.zero_le _, rfl, rfl, Drawn0.refl _⟩
  case round =>
    obtain ⟨k, hk, rfl, rfl, ⟨m, rfl⟩⟩ := hrel
    have hr : Aside0 (reg 4294967295 (s.data.toList.take k) < 4294967296) := ⟨reg_lt _ (by decide)⟩
    by_cases hlt : k < s.size
    · go_wp2_with fail
      refine (table_at ((reg 4294967295 (s.data.toList.take k) % 256) ^^^ s[k].toNat) (low_eq _ hr.out) (low_lt _ _) _).mono ?_
      rintro e w' ⟨rfl, ⟨nd, rfl⟩⟩
      go_wp2
      go_roundw
      case rel => exact ⟨k + 1, by omega, by go_num, by rw [take_snoc s k hlt, reg_snoc, upd_eq _ hr.out], by repeat (first | exact Drawn0.refl _ | apply Drawn0.step)⟩
      case measure => simp [intOf]; omega
    · go_wp2
      go_ret
      refine ⟨?_, by repeat (first | exact Drawn0.refl _ | apply Drawn0.step)⟩
      refine ret_u32 ((not_eq hr.out).trans ?_)
      rw [List.take_of_length_le (by simp; omega)]
      rfl
end Go.Proofs.Ytahjpeihekphcaa.S
