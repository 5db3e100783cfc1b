/- What the reference of layer 2 computes, and that the layer is alive. -/
import Derived.Test.YtahjpeihekphcaaS2
set_option linter.unusedVariables false
set_option linter.unusedSimpArgs false
namespace Go.Proofs.Ytahjpeihekphcaa.S
open Go.RowKit Go.Proofs.YtahjpeihekphcaaW.PrintWords Go.Proofs.YtahjpeihekphcaaW.PrintLast Go.Proofs.YtahjpeihekphcaaW.PrintMore Go.Proofs.Ytahjpeihekphcaa.Bt Go.Proofs.Ytahjpeihekphcaa.B Go.Proofs.Ytahjpeihekphcaa.Crc
open Go.Proofs.Ytahjpeihekphcaa.PSumIs

theorem ref_round {c : Nat} (hc : c < 4294967296) : (if (Int.tmod (c : Int) 2) = 1 then Go.bits .xor .u32 ((Int.tdiv (c : Int) 2) % 4294967296) 3988292384 else (Int.tdiv (c : Int) 2) % 4294967296) = ((Crc.step c : Nat) : Int) := by
  have e1 : Int.tmod (c : Int) 2 = ((c % 2 : Nat) : Int) := by rw [Int.tmod_eq_emod_of_nonneg (by omega)]; omega
  have e2 : Int.tdiv (c : Int) 2 % 4294967296 = ((c / 2 : Nat) : Int) := by rw [Int.tdiv_eq_ediv_of_nonneg (by omega)]; omega
  have e3 : (3988292384 : Int) = ((3988292384 : Nat) : Int) := rfl
  rw [e1, e2]
  unfold Crc.step
  by_cases h : c % 2 = 1
  · rw [if_pos (by omega), if_pos h, e3, xor32 (by omega) (by decide)]
  · rw [if_neg (by omega), if_neg h, Nat.xor_zero]
theorem ref_inner (s : ByteArray) : ∀ (d k c : Nat) (i x4 : Int), c < 4294967296 → 0 ≤ i → i ≤ 8 → 8 - i = d → magpieref02_Of.l1 (k + d + 1) s c x4 i = magpieref02_Of.l0 k s ((steps d c : Nat) : Int) (wrap64 (x4 + 1)) := by
  intro d
  induction d with
  | zero =>
    intro k c i x4 hc h0 h1 hd
    simp only [magpieref02_Of.l1]
    rw [if_neg (by omega)]
    rfl
  | succ d ih =>
    intro k c i x4 hc h0 h1 hd
    have hr := ref_round hc
    obtain ⟨q, hq⟩ : ∃ q, q = k + d + 1 := ⟨_, rfl⟩
    rw [show k + (d + 1) + 1 = q + 1 by omega]
    simp only [magpieref02_Of.l1]
    rw [if_pos (by omega), wrap_small h0 (by omega)]
    have e := ih k (Crc.step c) (i + 1) x4 (step_lt hc) (by omega) (by omega) (by omega)
    rw [← hq] at e
    by_cases h : (Int.tmod (c : Int) 2) = 1
    · rw [if_pos h] at hr ⊢
      rw [hr, e]
      rfl
    · rw [if_neg h] at hr ⊢
      rw [hr, e]
      rfl
theorem ref_outer (s : ByteArray) (hs : s.size ≤ 4611686018427387904) : ∀ (d k : Nat) (i : Nat), i ≤ s.size → s.size - i = d → 10 * d < k → magpieref02_Of.l0 k s ((reg 4294967295 (s.data.toList.take i) : Nat) : Int) (i : Int) = some ((crc s.data.toList : Nat) : Int) := by
  intro d
  induction d with
  | zero =>
    intro k i hi hd hk
    obtain ⟨k, rfl⟩ : ∃ m, k = m + 1 := ⟨k - 1, by omega⟩
    simp only [magpieref02_Of.l0]
    rw [if_neg (by omega), List.take_of_length_le (by simp; omega)]
    unfold crc
    have := reg_lt s.data.toList (n := 4294967295) (by decide)
    congr 1
    omega
  | succ d ih =>
    intro k i hi hd hk
    obtain ⟨k, rfl⟩ : ∃ m, k = (m + 8 + 1) + 1 := ⟨k - 10, by omega⟩
    have hr := reg_lt (s.data.toList.take i) (n := 4294967295) (by decide)
    have hlt : i < s.size := by omega
    have hb : bt s (i : Int) = ((s[i].toNat : Nat) : Int) := by simp [bt, hlt]
    have hbl := byte_lt s[i]
    have hb2 : (bt s (i : Int)) % 4294967296 = ((s[i].toNat : Nat) : Int) := by rw [hb]; omega
    simp only [magpieref02_Of.l0]
    rw [if_pos (by omega), if_pos (by omega), hb2, xor32 hr (by omega), ref_inner s 8 k _ 0 _ (Nat.xor_lt_two_pow (n := 32) hr (by omega)) (by decide) (by decide) (by decide), wrap_small (by omega) (by omega)]
    have e := ih k (i + 1) (by omega) (by omega) (by omega)
    rw [take_snoc s i hlt, reg_snoc] at e
    exact e
theorem ref_of (s : ByteArray) (hs : s.size ≤ 4611686018427387904) : ∃ k, magpieref02_Of.f k s = some ((crc s.data.toList : Nat) : Int) :=
  ⟨10 * s.size + 1, ref_outer s hs s.size _ 0 (by omega) (by omega) (by omega)⟩
theorem le4_str {n : Nat} (hn : n < 4294967296) : strOfNums [(Int.tmod (n : Int) 256) % 256, ((Int.tdiv (n : Int) 256) % 4294967296) % 256, ((Int.tdiv (n : Int) 65536) % 4294967296) % 256, ((Int.tdiv (n : Int) 16777216) % 4294967296) % 256] = str (le4 n) := by
  simp only [strOfNums, str, le4, List.map_cons, List.map_nil]
  have h : ∀ d : Nat, 0 < d → Int.tdiv (n : Int) d = ((n / d : Nat) : Int) := fun d _ => by
    rw [Int.tdiv_eq_ediv_of_nonneg (by omega)]
    simp
  have h1 := h 256 (by decide)
  have h2 := h 65536 (by decide)
  have h3 := h 16777216 (by decide)
  have h0 : Int.tmod (n : Int) 256 = ((n % 256 : Nat) : Int) := by rw [Int.tmod_eq_emod_of_nonneg (by omega)]; omega
  have g : ∀ m : Nat, m < 4294967296 → UInt8.ofNat ((((m : Nat) : Int) % 4294967296) % 256).toNat = UInt8.ofNat m := fun m hm => by
    apply UInt8.toNat_inj.1
    simp only [UInt8.toNat_ofNat']
    omega
  have g0 : UInt8.ofNat ((((n % 256 : Nat) : Int)) % 256).toNat = UInt8.ofNat n := by
    apply UInt8.toNat_inj.1
    simp only [UInt8.toNat_ofNat']
    omega
  have e1 : ((256 : Nat) : Int) = 256 := rfl
  have e2 : ((65536 : Nat) : Int) = 65536 := rfl
  have e3 : ((16777216 : Nat) : Int) = 16777216 := rfl
  rw [e1] at h1
  rw [e2] at h2
  rw [e3] at h3
  rw [h0, h1, h2, h3, g0, g _ (by omega), g _ (by omega), g _ (by omega)]
theorem str_append (l m : List UInt8) : str l ++ str m = str (l ++ m) := by
  refine list_ext ?_
  rw [data_str]
  simp [str]
theorem ref_seal (l : List UInt8) (hl : l.length ≤ 4611686018427) : ∃ k, magpieref02_Seal.f k (str l) = some (str (seal_ l)) := by
  obtain ⟨k, hk⟩ := ref_of (str l) (by rw [str_size]; omega)
  refine ⟨k, ?_⟩
  unfold magpieref02_Seal.f
  rw [hk]
  simp only [Option.bind_some]
  rw [le4_str (crc_lt _), str_append, data_str, str_size, str_size, if_pos (by simp [le4]; omega)]
  rfl
theorem ref_seal_calls (l : List UInt8) (hl : l.length ≤ 4611686018427) (w : World) : Calls Try.prog 19 #[.string (str l)] w fun e w' => e = .returned (.string (str (seal_ l))) ∧ Below w.heap.size w w' := by
  obtain ⟨k, hk⟩ := ref_seal l hl
  exact magpieref02_Seal.calls k _ _ w hk
theorem ref_of_calls (s : ByteArray) (hs : s.size ≤ 4611686018427387904) (w : World) : Calls Try.prog 17 #[.string s] w fun e w' => e = .returned (.int .u32 ((crc s.data.toList : Nat) : Int)) ∧ Drawn0 w w' := by
  obtain ⟨k, hk⟩ := ref_of s hs
  exact magpieref02_Of.calls k _ _ w hk
theorem ref_open_yes (l : List UInt8) (hl : l.length ≤ 4611686018427) (w : World) : Calls Try.prog 15 #[.string (str (seal_ l))] w fun e w' => e = .returned (.tuple #[.string (str l), .bool true]) ∧ Below w.heap.size w w' := by
  obtain ⟨k, hk⟩ := ref_seal l hl
  refine magpieref02_Open.calls k _ _ _ w ?_
  have hs : (str (seal_ l)).size = l.length + 4 := by rw [str_size, seal_length]
  have hx : (str (seal_ l)).extract 0 l.length = str l := list_ext (by rw [extract_list _ _ (by omega), data_str, data_str]; simp [seal_])
  unfold magpieref02_Open.f
  have hw : wrap64 (((str (seal_ l)).size : Int) - 4) = (l.length : Int) := by rw [hs]; unfold wrap64; omega
  rw [if_neg (by omega), hw, if_pos (by omega), if_pos (by omega), Int.toNat_natCast, hx, hk]
  simp
theorem ref_open_no (s : ByteArray) (w : World) (hno : ∀ l, s.data.toList ≠ seal_ l) (hl : s.size ≤ 4611686018427) : Calls Try.prog 15 #[.string s] w fun e w' => e = .returned (.tuple #[.string ⟨#[]⟩, .bool false]) ∧ Below w.heap.size w w' := by
  by_cases h4 : s.size < 4
  · refine magpieref02_Open.calls 0 _ _ _ w ?_
    unfold magpieref02_Open.f
    rw [if_pos (by omega)]
  · obtain ⟨k, hk⟩ := ref_seal (s.data.toList.take (s.size - 4)) (by rw [List.length_take]; omega)
    refine magpieref02_Open.calls k _ _ _ w ?_
    unfold magpieref02_Open.f
    have hw : wrap64 ((s.size : Int) - 4) = ((s.size - 4 : Nat) : Int) := by unfold wrap64; omega
    have hx : s.extract 0 (s.size - 4) = str (s.data.toList.take (s.size - 4)) := list_ext (by rw [extract_list _ _ (by omega), data_str])
    rw [if_neg (by omega), hw, if_pos (by omega), if_pos (by omega), Int.toNat_natCast, hx, hk]
    simp only [Option.bind_some]
    rw [if_neg]
    intro e
    rw [ByteArray.toList_eq, ByteArray.toList_eq, data_str] at e
    exact hno _ e.symm
end Go.Proofs.Ytahjpeihekphcaa.S
