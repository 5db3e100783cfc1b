/- The walk of the law SumTurned. -/
import Derived.Test.YtahjpeihekphcaaS4
import Derived.Test.YtahjpeihekphcaaCrc2
import Derived.OpenShut
set_option linter.unusedVariables false
set_option linter.unusedSimpArgs false
namespace Go.Proofs.Ytahjpeihekphcaa.S
open Go.RowKit Go.Proofs.YtahjpeihekphcaaW.PrintWords Go.Proofs.YtahjpeihekphcaaW.PrintLast Go.Proofs.YtahjpeihekphcaaW.PrintMore Go.Proofs.Ytahjpeihekphcaa.Bt Go.Proofs.Ytahjpeihekphcaa.B Go.Proofs.Ytahjpeihekphcaa.Crc
open Go.Proofs.Ytahjpeihekphcaa.PSumIs Go.Proofs.Ytahjpeihekphcaa.Reg

theorem cs_set (l : List UInt8) (i : Nat) (b : UInt8) : cs (l.set i b) = (cs l).set i (bv b) := by simp [cs, List.map_set]
theorem flip_cell (b : UInt8) {j : Nat} (hj : j < 8) : Value.int .u8 (Go.bits .xor .u8 (b.toNat : Int) (2 ^ j % 256)) = bv (flip b j) := by
  have h1 := byte_lt b
  have h2 : 2 ^ j < 2 ^ 8 := Nat.pow_lt_pow_right (by decide) hj
  have e : ((2 : Int) ^ j % 256) = ((2 ^ j : Nat) : Int) := by
    have e0 : ((2 : Int) ^ j) = ((2 ^ j : Nat) : Int) := by simp
    rw [e0]
    generalize (2 ^ j : Nat) = q at h2
    omega
  rw [e, bits_xor .u8 wraps_u8 _ _ (by simp only [IntKind.bits]; omega) (by simp only [IntKind.bits]; omega)]
  unfold bv
  rw [flip_toNat b hj]
theorem bit_test (bits k : Nat) : (((bits : Int) / 2 ^ k).tmod 2 == 1) = decide (bits / 2 ^ k % 2 = 1) := by
  have e : ((bits : Int) / 2 ^ k) = ((bits / 2 ^ k : Nat) : Int) := by simp
  rw [e, Int.tmod_eq_emod_of_nonneg (Int.natCast_nonneg _)]
  by_cases h : bits / 2 ^ k % 2 = 1
  · rw [decide_eq_true h]
    have : ((bits / 2 ^ k : Nat) : Int) % 2 = 1 := by omega
    rw [this]
    rfl
  · rw [decide_eq_false h]
    have : ((bits / 2 ^ k : Nat) : Int) % 2 = 0 := by omega
    rw [this]
    rfl
set_option maxHeartbeats 2000000 in
theorem sumTurned_walk (a0 : ByteArray) (a1 a2 : Int) (w : World) (w0 : a0.size ≤ 140737488351232) (w1 : (Lit.int .i64 a1).wf = true) (w2 : (Lit.int .u32 a2).wf = true) :
    Calls Try.prog 4 #[.string a0, .int .i64 a1, .int .u32 a2] w fun e w' => e = .returned (.bool true) ∧ Below w.heap.size w w' := by
  by_cases hlen : 1024 < a0.size ∨ a2 = 0
  · have c0 : (decide (1024 < (a0.size : Int)) || (a2 == 0)) = true := by
      rcases hlen with h | h
      · have : (1024 < (a0.size : Int)) := by omega
        simp [this]
      · simp [h]
    go_enter Try.func4, Try.ntmps4
    go_wp2_with fail
    ((with_reducible refine (alive_any _).mono ?_); rintro e w1 ⟨rfl, hb⟩)
    have HB := Aside0.mk hb
    clear hb
    go_wp2
    all_goals (go_ret; exact ⟨rfl, HB.out⟩)
  · obtain ⟨h1, h2⟩ := not_or.1 hlen
    obtain ⟨b1, b2⟩ := bounds_i64 w1
    obtain ⟨b3, b4⟩ := bounds_u32 w2
    have c0 : decide (1024 < (a0.size : Int)) = false := decide_eq_false (by omega)
    have c1 : (a2 == 0) = false := by simpa using h2
    have kb := fun W => print_bytes (P := Try.prog) 9 27 5 Try.underlying9 Try.underlying27 Try.underlying5 a0 W
    have hsm : Aside0 (a0.size ≤ 1024) := ⟨by omega⟩
    clear hlen w0 h1 h2 w1 w2
    go_enter Try.func4, Try.ntmps4
    go_wp2_with fail
    ((with_reducible refine (alive_any _).mono ?_); rintro e w1 ⟨rfl, hb⟩)
    have HB := Aside0.mk hb
    clear hb
    go_wp2_with fail
    have HO := Aside0.mk (own_conv w1 w.heap.size 5 a0 (by have := hsm.out; simp only [maxLen]; omega) (below_size HB.out))
    have HBc := Aside0.mk (below_step HB.out (conv_below w1 5 a0))
    ((with_reducible refine (seal_any w.heap.size _ _ _ HO.out (below_size HBc.out) (by rw [data_length]; have := hsm.out; omega)).mono ?_); rintro e w2 ⟨v2, rfl, hO2, hg2, -⟩)
    have HB2 := Aside0.mk (own_grown HO.out HBc.out (Nat.le_refl _) (below_size HBc.out) hg2)
    have HO2 := Aside0.mk hO2
    clear hg2 hO2 HO HBc HB kb
    have hne : v2.ownBlock ≠ none := by
      intro h
      rcases HO2.out with ⟨_, h0⟩ | ⟨g, cap, cur, fz, rfl, _⟩
      · simp [cs, seal_, le4] at h0
      · cases h
    obtain ⟨g, cap, rfl⟩ : ∃ g cap, v2 = .slice (some ⟨g, 0, none⟩) (a0.size + 4) cap := by
      rcases HO2.out with ⟨rfl, h0⟩ | ⟨g, cap, cur, fz, rfl, _⟩
      · exact absurd rfl hne
      · exact ⟨g, cap, by rw [cs_length, seal_length, data_length]⟩
    clear hne
    have hsz := hsm.out
    by_cases hat : a1 < 0 ∨ 8 * ((a0.size : Int) + 4) - 32 < a1
    · have cc : (decide (a1 < 0) || decide (8 * ((a0.size : Int) + 4) - 32 < a1)) = true := by simpa using hat
      go_wp2
      all_goals (go_ret; exact ⟨rfl, HB2.out⟩)
    · obtain ⟨h1, h2⟩ := not_or.1 hat
      have c2 : decide (a1 < 0) = false := decide_eq_false h1
      have c3 : decide (8 * ((a0.size : Int) + 4) - 32 < a1) = false := decide_eq_false h2
      obtain ⟨at_, rfl⟩ := Int.eq_ofNat_of_zero_le (show 0 ≤ a1 by omega)
      obtain ⟨bits, rfl⟩ := Int.eq_ofNat_of_zero_le b3
      clear hat h1
      have hb32 : Aside0 (bits < 4294967296) := ⟨by omega⟩
      have hbne : Aside0 (bits ≠ 0) := ⟨fun h => by subst h; simp at c1⟩
      have hat : Aside0 (at_ + 32 ≤ 8 * (a0.size + 4)) := ⟨by omega⟩
      go_wp2
      go_loopw [8] (fun i wr => ∃ (k : Nat) (l : List UInt8), k ≤ 32 ∧ i = .int .i64 (k : Int) ∧ Aside0 (l.length = a0.size + 4) ∧ Aside0 (Own wr w.heap.size 5 (.slice (some ⟨g, 0, none⟩) (a0.size + 4) cap) (cs l)) ∧ Aside0 (num l = num (seal_ a0.data.toList) ^^^ 2 ^ at_ * (bits % 2 ^ k)) ∧ Aside0 (Below w.heap.size w wr)) (fun i _ => 32 - (intOf i).toNat)
      case atStart => exact ⟨0, seal_ a0.data.toList, Nat.zero_le _, rfl, ⟨by rw [seal_length, data_length]⟩, HO2, ⟨by simp [Nat.mod_one]⟩, HB2⟩
      case round =>
        clear HO2 HB2
        obtain ⟨k, l, hk, rfl, hl, HO, hn, HB⟩ := hrel
        by_cases hlt : k < 32
        · have hidx : Aside0 ((at_ + k) / 8 < l.length) := ⟨by have := hl.out; have := hat.out; omega⟩
          by_cases hbit : bits / 2 ^ k % 2 = 1
          · have hc : ((((bits : Int) / 2 ^ k).tmod 2) == 1) = true := by rw [bit_test bits k]; simpa using hbit
            have hidx' : (at_ + k) / 8 < (cs l).length := by rw [cs_length]; exact hidx.out
            obtain ⟨hcell, hfr⟩ := HO.out.at_ ((at_ + k) / 8) hidx'
            have hst := HO.out.store ((at_ + k) / 8) hidx' (.int .u8 (Go.bits .xor .u8 ((l[(at_ + k) / 8]'hidx.out).toNat : Int) (2 ^ ((at_ + k) % 8) % 256)))
            have hv : (cs l)[(at_ + k) / 8]'hidx' = .int .u8 ((l[(at_ + k) / 8]'hidx.out).toNat : Int) := by simp [cs, bv]
            rw [hv] at hcell
            have e1 : (((at_ : Int) + (k : Int)) / 8).toNat = (at_ + k) / 8 := by omega
            have e2 : (((at_ : Int) + (k : Int)) / 8) < (a0.size : Int) + 4 := by have := hidx.out; have := hl.out; omega
            have hst' := Aside0.mk hst
            have hv' := Aside0.mk hv
            have hb' := Aside0.mk hbit
            clear hv hst hbit
            go_wp2
            go_roundw
            case rel =>
              refine ⟨k + 1, l.set ((at_ + k) / 8) (flip (l[(at_ + k) / 8]'hidx.out) ((at_ + k) % 8)), by omega, by go_num, ⟨by rw [List.length_set]; exact hl.out⟩, ⟨?_⟩, ⟨round_set hn.out hidx.out hb'.out⟩, ⟨?_⟩⟩
              · have h := hst'.out.1
                rw [flip_cell _ (by omega), ← cs_set] at h
                rw [flip_cell _ (by omega)]
                exact h
              · exact HB.out.grown hst'.out.2 (below_size HB.out) (fun j hj => by cases hj; exact (HO.out.lt _ rfl).1)
            case measure => simp [intOf]; omega
          · have hc : ((((bits : Int) / 2 ^ k).tmod 2) == 1) = false := by rw [bit_test bits k]; simpa using hbit
            have hb' := Aside0.mk hbit
            clear hbit
            go_wp2
            go_roundw
            case rel => exact ⟨k + 1, l, by omega, by go_num, hl, HO, ⟨by rw [hn.out]; exact round_not hb'.out⟩, HB⟩
            case measure => simp [intOf]; omega
        · obtain rfl : k = 32 := by omega
          have hnum : Aside0 (∀ m, l ≠ seal_ m) := ⟨fun m => burst (l := a0.data.toList) (b := l) (bits := bits) (at_ := at_) (by rw [hl.out, seal_length, data_length]) (by rw [hn.out, Nat.mod_eq_of_lt hb32.out]) hbne.out hb32.out (by rw [seal_length, data_length]; exact hat.out)⟩
          have hc := run_str (P := Try.prog) (src := 27) (dst := 9) Try.underlying27 Try.underlying5 Try.underlying9 HO.out
          go_wp2_with fail
          ((with_reducible refine (open_no _ _ (fun m => by rw [data_str]; exact hnum.out m) (by rw [str_size, hl.out]; omega)).mono ?_); rintro e w5 ⟨rfl, hb⟩)
          have HB5 := Aside0.mk (below_step HB.out hb)
          clear hb
          go_wp2
          go_ret
          exact ⟨rfl, HB5.out⟩
end Go.Proofs.Ytahjpeihekphcaa.S
