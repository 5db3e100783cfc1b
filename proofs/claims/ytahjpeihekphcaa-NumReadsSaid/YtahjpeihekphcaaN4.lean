/- What a reader's Uint computes. -/
import Derived.Test.YtahjpeihekphcaaN3
set_option linter.unusedVariables false
set_option linter.unusedSimpArgs false
namespace Go.Proofs.Ytahjpeihekphcaa.N
open Go.RowKit Go.Proofs.YtahjpeihekphcaaW.PrintWords Go.Proofs.YtahjpeihekphcaaW.PrintLast Go.Proofs.Ytahjpeihekphcaa.Bt Go.Proofs.Ytahjpeihekphcaa.B Go.Proofs.Ytahjpeihekphcaa.Vi

/-- What Uint leaves: the next number, and what is behind it; or 0, and something is wrong. -/
def UPost (w : World) (g b : Nat) (l : List UInt8) (most : Nat) (e : Ending) (w' : World) : Prop :=
  (∃ n r, l = vint n ++ r ∧ n < 18446744073709551616 ∧ n ≤ most ∧ e = .returned (.int .u64 (n : Int)) ∧ RS w' g b (some r) ∧ w.grownBy w' (some g)) ∨
  ((∀ n r, l = vint n ++ r → n < 18446744073709551616 → most < n) ∧ e = .returned (.int .u64 0) ∧ RS w' g b none ∧ w.grownBy w' (some g))

set_option maxHeartbeats 400000 in
theorem ruint_nil (most : Int) (w : World) : Calls Try.prog 24 #[.pointer none, .int .u64 most] w fun e w' => e = .returned (.int .u64 0) ∧ w = w' := by
  go_enter Try.func24, Try.ntmps24
  go_wp2
  go_ret
  exact ⟨rfl, rfl⟩
set_option maxHeartbeats 400000 in
theorem ruint_bad (g b : Nat) (most : Int) (w : World) (h : RS w g b none) : Calls Try.prog 24 #[.pointer (some ⟨g, 0, none⟩), .int .u64 most] w fun e w' => e = .returned (.int .u64 0) ∧ RS w' g b none ∧ w.grownBy w' (some g) := by
  have hA : At w g (.slice none 0 0) (.bool true) := h
  have c0 := hA.cell0
  have HA := Aside0.mk hA
  clear hA h
  go_enter Try.func24, Try.ntmps24
  go_wp2
  go_loopw [5, 15] (fun t5 t15 wr => t15 = .int .i64 0 ∧ wr = w) (fun _ _ _ => 0)
  case atStart => exact ⟨rfl, rfl⟩
  case round =>
    obtain ⟨rfl, rfl⟩ := hrel
    go_wp2_with fail
    ((with_reducible refine (fail_any g _ _ _ HA.out).mono ?_); rintro e w2 ⟨rfl, h2, h3⟩)
    have H2 := Aside0.mk h2
    have H3 := Aside0.mk h3
    clear h2 h3
    go_wp2
    go_ret
    exact ⟨rfl, H2.out, H3.out⟩
theorem low7 {q : Nat} (hq : q < 256) : Go.bits .and .u8 (q : Int) 127 = ((q % 128 : Nat) : Int) := by
  have h := bits_mask .u8 8 (by decide) wraps_u8 7 (by decide) (q : Int) (by omega) (by omega)
  have e : ((2 : Int) ^ 7 - 1) = 127 := by decide
  rw [e] at h
  rw [h]
  omega
theorem acc_eq {acc q i : Nat} (ha : acc < 128 ^ i) (hq : q < 256) (hi : i ≤ 9) (h9 : i = 9 → q ≤ 1) :
    Go.bits .or .u64 (acc : Int) (IntKind.u64.wrap (IntKind.u64.wrap (Go.bits .and .u8 (q : Int) 127) * 2 ^ (7 * i))) = ((acc + 128 ^ i * (q % 128) : Nat) : Int) := by
  have hp : 128 ^ i = 2 ^ (7 * i) := by rw [show (128 : Nat) = 2 ^ 7 by decide, ← Nat.pow_mul]
  have hle : 128 ^ i * (q % 128) < 18446744073709551616 := by
    by_cases h : i = 9
    · subst h
      have h1 : (128 : Nat) ^ 9 = 9223372036854775808 := by decide
      have h2 := h9 rfl
      rw [h1]
      omega
    · have h1 : 128 ^ i ≤ 128 ^ 8 := Nat.pow_le_pow_right (by decide) (by omega)
      have h2 : (128 : Nat) ^ 8 = 72057594037927936 := by decide
      have h3 : 128 ^ i * (q % 128) ≤ 128 ^ i * 127 := Nat.mul_le_mul_left _ (by omega)
      omega
  have hal : acc < 18446744073709551616 := by
    have h1 : 128 ^ i ≤ 128 ^ 9 := Nat.pow_le_pow_right (by decide) hi
    have h2 : (128 : Nat) ^ 9 = 9223372036854775808 := by decide
    omega
  rw [low7 hq, u64_wrap, u64_wrap]
  have e1 : (((q % 128 : Nat) : Int) % 18446744073709551616) = ((q % 128 : Nat) : Int) := by omega
  have e2 : (((q % 128 : Nat) : Int) * 2 ^ (7 * i)) = ((128 ^ i * (q % 128) : Nat) : Int) := by
    rw [hp]
    simp [Int.mul_comm]
  rw [e1, e2]
  have e3 : (((128 ^ i * (q % 128) : Nat) : Int) % 18446744073709551616) = ((128 ^ i * (q % 128) : Nat) : Int) := by
    generalize 128 ^ i * (q % 128) = z at hle
    omega
  rw [e3, or64 hal hle, Nat.or_comm]
  congr 1
  rw [hp] at ha ⊢
  rw [← Nat.two_pow_add_eq_or_of_lt ha, Nat.add_comm]
theorem acc_lt {acc q i n0 : Nat} (ha : acc < 128 ^ i) (hn : n0 = acc + 128 ^ i * (q % 128)) (hq : q < 256) (hi : i ≤ 9) (h9 : i = 9 → q ≤ 1) : n0 < 18446744073709551616 := by
  subst hn
  by_cases h : i = 9
  · subst h
    have h1 : (128 : Nat) ^ 9 = 9223372036854775808 := by decide
    have h2 := h9 rfl
    rw [h1] at ha ⊢
    omega
  · have h1 : 128 ^ i ≤ 128 ^ 8 := Nat.pow_le_pow_right (by decide) (by omega)
    have h2 : (128 : Nat) ^ 8 = 72057594037927936 := by decide
    have h3 : 128 ^ i * (q % 128) ≤ 128 ^ i * 127 := Nat.mul_le_mul_left _ (by omega)
    omega
/-- The state behind 'r.rest = r.rest[k:]'. -/
theorem rs_after {w : World} {g b off c c' off' : Nat} {l : List UInt8} (k : Nat) (hA : At w g (.slice (some ⟨b, off, none⟩) l.length c) (.bool false)) (hc : ∀ j (h : j < l.length), w.cell? ⟨b, off + j, none⟩ = some (bv l[j])) (hlc : l.length ≤ c) (hbg : b ≠ g) (hll : l.length ≤ 4611686018427)
    (hk : k ≤ l.length) (hc' : c' = c - k) (ho : k < l.length → off' = off + k) : RS (w.setCell ⟨g, 0, none⟩ (.slice (some ⟨b, off', none⟩) (l.length - k) c')) g b (some (l.drop k)) := by
  refine ⟨off', c', ?_, fun j hj => ?_, by rw [List.length_drop]; omega, hbg, by rw [List.length_drop]; omega⟩
  · rw [List.length_drop]
    exact hA.set0 _
  · rw [List.length_drop] at hj
    rw [ho (by omega), World.cell?_setCell_other _ _ _ _ (by intro e; injection e with e; exact hbg e.symm), show off + k + j = off + (k + j) by omega, hc (k + j) (by omega)]
    simp
set_option maxHeartbeats 4000000 in
theorem ruint_any (g b : Nat) (l : List UInt8) (most : Nat) (w : World) (hm : most < 18446744073709551616) (h : RS w g b (some l)) :
    Calls Try.prog 24 #[.pointer (some ⟨g, 0, none⟩), .int .u64 (most : Int)] w (UPost w g b l most) := by
  obtain ⟨off, c, hA, hc, hlc, hbg, hll⟩ := h
  have c0 := hA.cell0
  have HA := Aside0.mk hA
  have Hc := Aside0.mk hc
  have Hlc := Aside0.mk hlc
  have Hbg := Aside0.mk hbg
  have Hm := Aside0.mk hm
  clear hA hc hlc hbg hm
  go_enter Try.func24, Try.ntmps24
  go_wp2
  go_loop [5, 15] (fun t5 t15 => ∃ (i acc : Nat), t15 = .int .i64 (i : Int) ∧ t5 = .int .u64 (acc : Int) ∧ i ≤ 9 ∧ Aside0 (Got l i acc)) (fun _ t15 => 9 - (intOf t15).toNat)
  case atStart => exact ⟨0, 0, rfl, rfl, by omega, ⟨Got.start l⟩⟩
  case round =>
    obtain ⟨i, acc, rfl, rfl, hi9, hG⟩ := hrel
    by_cases hlt : i < l.length
    · obtain ⟨q, hq⟩ : ∃ q, q = l[i].toNat := ⟨_, rfl⟩
      have hcell : w.cell? ⟨b, off + i, none⟩ = some (.int .u8 (q : Int)) := by rw [hq]; exact Hc.out i hlt
      have hq256 : q < 256 := by rw [hq]; exact l[i].toNat_lt
      have Hq := Aside0.mk hq
      clear hq
      by_cases h9 : i = 9
      · have c9 : ((i : Int) == 9) = true := by simpa using (by omega : (i : Int) = 9)
        by_cases hq1 : 1 < q
        · have c1 : decide ((1 : Int) < (q : Int)) = true := decide_eq_true (by omega)
          have HN : Aside0 (∀ n r, l = vint n ++ r → n < 18446744073709551616 → most < n) := ⟨fun n r he hn => by
            subst h9
            have := hG.out.great hlt (by rw [← Hq.out]; exact hq1) n r he
            omega⟩
          clear h9 hq1
          go_wp2_with (first | (go_at_call 44; (with_reducible refine (fail_any g _ _ _ HA.out).mono ?_); rintro e w2 ⟨rfl, h2, h3⟩; have H2 := Aside0.mk h2; have H3 := Aside0.mk h3; clear h2 h3))
          go_ret
          exact .inr ⟨HN.out, rfl, H2.out, H3.out⟩
        · have c1 : decide ((1 : Int) < (q : Int)) = false := decide_eq_false (by omega)
          have hb : q < 128 := by omega
          have hq1 : i = 9 → q ≤ 1 := fun _ => by omega
          clear h9
          obtain ⟨n0, hn0⟩ : ∃ n0, n0 = acc + 128 ^ i * (q % 128) := ⟨_, rfl⟩
          have hE : Go.bits .or .u64 (acc : Int) (IntKind.u64.wrap (IntKind.u64.wrap (Go.bits .and .u8 (q : Int) 127) * 2 ^ (7 * i))) = (n0 : Int) := by rw [hn0]; exact acc_eq hG.out.2.1 hq256 (by omega) hq1
          have c2 : decide ((128 : Int) ≤ (q : Int)) = false := decide_eq_false (by omega)
          have hqm : q % 128 = l[i].toNat := by rw [← Hq.out]; omega
          have Hn64 : Aside0 (n0 < 18446744073709551616) := ⟨acc_lt hG.out.2.1 hn0 (by omega) (by omega) hq1⟩
          have Hlast : Aside0 (∀ n r, l = vint n ++ r ↔ n = n0 ∧ (i = 0 ∨ l[i].toNat ≠ 0) ∧ r = l.drop (i + 1)) := ⟨fun n r => by rw [hn0, hqm]; exact hG.out.last hlt (by rw [← Hq.out]; exact hb)⟩
          have Hsize : Aside0 ((vint n0).length = i + 1 ↔ (i = 0 ∨ l[i].toNat ≠ 0)) := ⟨by rw [hn0, hqm]; exact hG.out.size hlt (by rw [← Hq.out]; exact hb)⟩
          clear hn0 hqm hq1
          obtain ⟨sz, hsz⟩ : ∃ sz, sz = (vint n0).length := ⟨_, rfl⟩
          have hsl : sz ≤ 10 := by rw [hsz]; exact vint_le10 Hn64.out
          have Hlt := Aside0.mk hlt
          by_cases hmost : most < n0
          · have c3 : decide (most < n0) = true := decide_eq_true hmost
            have HN : Aside0 (∀ n r, l = vint n ++ r → n < 18446744073709551616 → most < n) := ⟨fun n r he _ => by rw [((Hlast.out n r).1 he).1]; exact hmost⟩
            clear hmost hsz
            go_wp2_with (first | (go_at_call 44; (with_reducible refine (fail_any g _ _ _ HA.out).mono ?_); rintro e w2 ⟨rfl, h2, h3⟩; have H2 := Aside0.mk h2; have H3 := Aside0.mk h3; clear h2 h3))
            go_ret
            exact .inr ⟨HN.out, rfl, H2.out, H3.out⟩
          · have c3 : decide (most < n0) = false := decide_eq_false hmost
            have Hmost := Aside0.mk hmost
            clear hmost
            rw [← hsz] at Hsize
            have hsc : ∀ W, Calls Try.prog 21 #[.int .u64 (n0 : Int)] W fun e w' => e = .returned (.int .i64 (sz : Int)) ∧ W = w' := fun W => by rw [hsz]; exact size_any n0 Hn64.out W
            have Hsc := Aside0.mk hsc
            clear hsz hsc
            by_cases heq : sz = i + 1
            · have c4 : ((sz : Int) != (i : Int) + 1) = false := by simpa using (by omega : (sz : Int) = (i : Int) + 1)
              have Heq := Aside0.mk (Hsize.out.1 heq)
              have f0 := HA.out.free 0
              have hll' := Aside0.mk hll
              clear heq hsl
              by_cases hcap : c = i + 1
              · subst hcap
                go_wp2_with (go_at_call 21; (with_reducible refine (Hsc.out _).mono ?_); rintro e w1 ⟨rfl, rfl⟩)
                go_ret
                exact .inl ⟨n0, l.drop (i + 1), (Hlast.out _ _).2 ⟨rfl, Heq.out, rfl⟩, Hn64.out, by have := Hmost.out; omega, rfl, rs_after (i + 1) HA.out Hc.out Hlc.out Hbg.out hll'.out Hlt.out (by omega) (fun h => by have := Hlc.out; omega), grown_set _ _ _ _⟩
              · go_wp2_with (go_at_call 21; (with_reducible refine (Hsc.out _).mono ?_); rintro e w1 ⟨rfl, rfl⟩)
                go_ret
                exact .inl ⟨n0, l.drop (i + 1), (Hlast.out _ _).2 ⟨rfl, Heq.out, rfl⟩, Hn64.out, by have := Hmost.out; omega, rfl, rs_after (i + 1) HA.out Hc.out Hlc.out Hbg.out hll'.out Hlt.out rfl (fun _ => rfl), grown_set _ _ _ _⟩
            · have c4 : ((sz : Int) != (i : Int) + 1) = true := by simpa using (by omega : ¬ (sz : Int) = (i : Int) + 1)
              have HN : Aside0 (∀ n r, l = vint n ++ r → n < 18446744073709551616 → most < n) := ⟨fun n r he _ => absurd (Hsize.out.2 ((Hlast.out n r).1 he).2.1) heq⟩
              clear heq
              go_wp2_with (first | (go_at_call 44; (with_reducible refine (fail_any g _ _ _ HA.out).mono ?_); rintro e w2 ⟨rfl, h2, h3⟩; have H2 := Aside0.mk h2; have H3 := Aside0.mk h3; clear h2 h3) | (go_at_call 21; (with_reducible refine (Hsc.out _).mono ?_); rintro e w1 ⟨rfl, rfl⟩))
              go_ret
              exact .inr ⟨HN.out, rfl, H2.out, H3.out⟩
      · have c9 : ((i : Int) == 9) = false := by simpa using (by omega : ¬ (i : Int) = 9)
        have hi8 : i ≤ 8 := by omega
        have hq1 : i = 9 → q ≤ 1 := fun h => absurd h h9
        clear h9
        by_cases hb : q < 128
        · skip
          obtain ⟨n0, hn0⟩ : ∃ n0, n0 = acc + 128 ^ i * (q % 128) := ⟨_, rfl⟩
          have hE : Go.bits .or .u64 (acc : Int) (IntKind.u64.wrap (IntKind.u64.wrap (Go.bits .and .u8 (q : Int) 127) * 2 ^ (7 * i))) = (n0 : Int) := by rw [hn0]; exact acc_eq hG.out.2.1 hq256 (by omega) hq1
          have c2 : decide ((128 : Int) ≤ (q : Int)) = false := decide_eq_false (by omega)
          have hqm : q % 128 = l[i].toNat := by rw [← Hq.out]; omega
          have Hn64 : Aside0 (n0 < 18446744073709551616) := ⟨acc_lt hG.out.2.1 hn0 (by omega) (by omega) hq1⟩
          have Hlast : Aside0 (∀ n r, l = vint n ++ r ↔ n = n0 ∧ (i = 0 ∨ l[i].toNat ≠ 0) ∧ r = l.drop (i + 1)) := ⟨fun n r => by rw [hn0, hqm]; exact hG.out.last hlt (by rw [← Hq.out]; exact hb)⟩
          have Hsize : Aside0 ((vint n0).length = i + 1 ↔ (i = 0 ∨ l[i].toNat ≠ 0)) := ⟨by rw [hn0, hqm]; exact hG.out.size hlt (by rw [← Hq.out]; exact hb)⟩
          clear hn0 hqm hq1
          obtain ⟨sz, hsz⟩ : ∃ sz, sz = (vint n0).length := ⟨_, rfl⟩
          have hsl : sz ≤ 10 := by rw [hsz]; exact vint_le10 Hn64.out
          have Hlt := Aside0.mk hlt
          by_cases hmost : most < n0
          · have c3 : decide (most < n0) = true := decide_eq_true hmost
            have HN : Aside0 (∀ n r, l = vint n ++ r → n < 18446744073709551616 → most < n) := ⟨fun n r he _ => by rw [((Hlast.out n r).1 he).1]; exact hmost⟩
            clear hmost hsz
            go_wp2_with (first | (go_at_call 44; (with_reducible refine (fail_any g _ _ _ HA.out).mono ?_); rintro e w2 ⟨rfl, h2, h3⟩; have H2 := Aside0.mk h2; have H3 := Aside0.mk h3; clear h2 h3))
            go_ret
            exact .inr ⟨HN.out, rfl, H2.out, H3.out⟩
          · have c3 : decide (most < n0) = false := decide_eq_false hmost
            have Hmost := Aside0.mk hmost
            clear hmost
            rw [← hsz] at Hsize
            have hsc : ∀ W, Calls Try.prog 21 #[.int .u64 (n0 : Int)] W fun e w' => e = .returned (.int .i64 (sz : Int)) ∧ W = w' := fun W => by rw [hsz]; exact size_any n0 Hn64.out W
            have Hsc := Aside0.mk hsc
            clear hsz hsc
            by_cases heq : sz = i + 1
            · have c4 : ((sz : Int) != (i : Int) + 1) = false := by simpa using (by omega : (sz : Int) = (i : Int) + 1)
              have Heq := Aside0.mk (Hsize.out.1 heq)
              have f0 := HA.out.free 0
              have hll' := Aside0.mk hll
              clear heq hsl
              by_cases hcap : c = i + 1
              · subst hcap
                go_wp2_with (go_at_call 21; (with_reducible refine (Hsc.out _).mono ?_); rintro e w1 ⟨rfl, rfl⟩)
                go_ret
                exact .inl ⟨n0, l.drop (i + 1), (Hlast.out _ _).2 ⟨rfl, Heq.out, rfl⟩, Hn64.out, by have := Hmost.out; omega, rfl, rs_after (i + 1) HA.out Hc.out Hlc.out Hbg.out hll'.out Hlt.out (by omega) (fun h => by have := Hlc.out; omega), grown_set _ _ _ _⟩
              · go_wp2_with (go_at_call 21; (with_reducible refine (Hsc.out _).mono ?_); rintro e w1 ⟨rfl, rfl⟩)
                go_ret
                exact .inl ⟨n0, l.drop (i + 1), (Hlast.out _ _).2 ⟨rfl, Heq.out, rfl⟩, Hn64.out, by have := Hmost.out; omega, rfl, rs_after (i + 1) HA.out Hc.out Hlc.out Hbg.out hll'.out Hlt.out rfl (fun _ => rfl), grown_set _ _ _ _⟩
            · have c4 : ((sz : Int) != (i : Int) + 1) = true := by simpa using (by omega : ¬ (sz : Int) = (i : Int) + 1)
              have HN : Aside0 (∀ n r, l = vint n ++ r → n < 18446744073709551616 → most < n) := ⟨fun n r he _ => absurd (Hsize.out.2 ((Hlast.out n r).1 he).2.1) heq⟩
              clear heq
              go_wp2_with (first | (go_at_call 44; (with_reducible refine (fail_any g _ _ _ HA.out).mono ?_); rintro e w2 ⟨rfl, h2, h3⟩; have H2 := Aside0.mk h2; have H3 := Aside0.mk h3; clear h2 h3) | (go_at_call 21; (with_reducible refine (Hsc.out _).mono ?_); rintro e w1 ⟨rfl, rfl⟩))
              go_ret
              exact .inr ⟨HN.out, rfl, H2.out, H3.out⟩
        · have c2 : decide ((128 : Int) ≤ (q : Int)) = true := decide_eq_true (by omega)
          have HE := Aside0.mk (acc_eq hG.out.2.1 hq256 (by omega) hq1)
          have hq2 : Aside0 (q % 128 = q - 128) := ⟨by omega⟩
          have Hlt := Aside0.mk hlt
          have Hb := Aside0.mk hb
          clear hb hq1
          go_wp2
          go_round
          case rel =>
            refine ⟨i + 1, acc + 128 ^ i * (q % 128), by go_num, by rw [HE.out], by omega, ⟨?_⟩⟩
            rw [hq2.out, Hq.out]
            exact hG.out.more Hlt.out (by rw [← Hq.out]; exact Hb.out)
          case measure => simp [intOf]; omega
    · have HN : Aside0 (∀ n r, l = vint n ++ r → n < 18446744073709551616 → most < n) := ⟨fun n r he _ => absurd he (hG.out.none hlt n r)⟩
      go_wp2_with fail
      ((with_reducible refine (fail_any g _ _ _ HA.out).mono ?_); rintro e w2 ⟨rfl, h2, h3⟩)
      have H2 := Aside0.mk h2
      have H3 := Aside0.mk h3
      clear h2 h3
      go_wp2
      go_ret
      exact .inr ⟨HN.out, rfl, H2.out, H3.out⟩
end Go.Proofs.Ytahjpeihekphcaa.N
