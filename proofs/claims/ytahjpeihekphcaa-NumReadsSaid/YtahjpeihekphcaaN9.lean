/- The walk of the law NumOnce. -/
import Derived.Test.YtahjpeihekphcaaN8
set_option linter.unusedVariables false
set_option linter.unusedSimpArgs false
namespace Go.Proofs.Ytahjpeihekphcaa.N
open Go.RowKit Go.Proofs.YtahjpeihekphcaaW.PrintWords Go.Proofs.YtahjpeihekphcaaW.PrintLast Go.Proofs.Ytahjpeihekphcaa.Bt Go.Proofs.Ytahjpeihekphcaa.B Go.Proofs.Ytahjpeihekphcaa.Vi

theorem nxt_spec {most : Nat} {l r : List UInt8} (h : (nxt most (some l)).2 = some r) : l = vint (nxt most (some l)).1 ++ r := by
  by_cases hh : Has most (some l)
  · obtain ⟨⟨n, q⟩, he, h1, h2⟩ := hh
    injection he with he
    rw [he, nxt_yes h1 h2] at h ⊢
    injection h with h
    rw [h]
  · unfold nxt at h
    rw [dif_neg hh] at h
    cases h
theorem zig_unzig (n : Nat) : zig (unzig n) = n := by
  unfold unzig zig
  by_cases h : n % 2 = 0
  · rw [if_pos h, if_pos (by omega)]
    omega
  · rw [if_neg h, if_neg (by omega)]
    omega
theorem unzig_ge {n : Nat} (h : n < 18446744073709551616) : -9223372036854775808 ≤ unzig n ∧ unzig n ≤ 9223372036854775807 := by
  unfold unzig
  split <;> omega
theorem isEnd_some {st : Option (List UInt8)} (h : isEnd st = true) : st = some [] := by
  match st, h with
  | some [], _ => rfl
set_option maxHeartbeats 1000000 in
theorem numOnce_walk (a0 : ByteArray) (w : World) (w0 : a0.size ≤ 140737488351232) :
    Calls Try.prog 7 #[.string a0] w fun e w' => e = .returned (.bool true) ∧ Below w.heap.size w w' := by
  by_cases hlen : 100 < a0.size
  · have c0 : decide (100 < a0.size) = true := decide_eq_true hlen
    have c0' : decide (100 < (a0.size : Int)) = true := decide_eq_true (by omega)
    go_enter Try.func7, Try.ntmps7
    go_wp2_with fail
    ((with_reducible refine (alive_any w).mono ?_); rintro e w1 ⟨rfl, hb⟩)
    have HB := Aside0.mk hb
    clear hb
    go_wp2_with fail
    go_ret
    exact ⟨rfl, HB.out⟩
  have c0 : decide (100 < (a0.size : Int)) = false := decide_eq_false (by omega)
  have hsm : Aside0 (a0.size ≤ 100) := ⟨by omega⟩
  clear hlen w0
  go_enter Try.func7, Try.ntmps7
  go_wp2_with fail
  ((with_reducible refine (alive_any w).mono ?_); rintro e w1 ⟨rfl, hb⟩)
  have HB := Aside0.mk hb
  clear hb
  go_wp2_with fail
  ((with_reducible refine (from_any a0 w1 (by have := hsm.out; omega)).mono ?_); rintro e w2 ⟨g, b, rfl, hR, hb, hg, hbb, hbg⟩)
  have HB2 := Aside0.mk (below_step HB.out hb)
  have HR := Aside0.mk hR
  have Hg := Aside0.mk (And.intro (Nat.le_trans (below_size HB.out) hg) (Nat.le_trans (below_size HB.out) hbb))
  have Hbg := Aside0.mk hbg
  clear hb hR hg hbb hbg HB
  go_wp2_with fail
  ((with_reducible refine (from_any a0 w2 (by have := hsm.out; omega)).mono ?_); rintro e w3 ⟨g', b', rfl, hR', hb, hg', hbb', hbg'⟩)
  have HB3 := Aside0.mk (below_step HB2.out hb)
  have HR' := Aside0.mk hR'
  have Hg' := Aside0.mk (And.intro (Nat.le_trans (below_size HB2.out) hg') (Nat.le_trans (below_size HB2.out) hbb'))
  have hlt := HR.out.lt
  have Hne := Aside0.mk (show g < g' ∧ g < b' ∧ b < g' by have := Hbg.out; exact ⟨by omega, by omega, by omega⟩)
  have HR3 := Aside0.mk (HR.out.kept (grown_of_below hb none) (by simp) (by simp))
  clear hb hR' hg' hbb' hbg' HB2 HR Hbg hlt
  have Hn64 := Aside0.mk (nxt_lt 18446744073709551615 (some a0.data.toList)).1
  have Hsp := Aside0.mk (fun r => @nxt_spec 18446744073709551615 a0.data.toList r)
  go_wp2_with fail
  ((refine (ru g b _ 18446744073709551615 _ (by decide) HR3.out).mono ?_); rintro e w4 ⟨rfl, h4, hg4⟩)
  have H4 := Aside0.mk h4
  have HR4 := Aside0.mk (HR'.out.kept hg4 (by have := Hne.out; simp; omega) (by have := Hne.out; simp; omega))
  have HB4 := Aside0.mk (HB3.out.grown hg4 (below_size HB3.out) (by intro k hk; cases hk; exact Hg.out.1))
  clear h4 hg4 HR3 HR' HB3
  obtain ⟨n, hn⟩ : ∃ n, n = (nxt 18446744073709551615 (some a0.data.toList)).1 := ⟨_, rfl⟩
  obtain ⟨st, hst⟩ : ∃ st, st = (nxt 18446744073709551615 (some a0.data.toList)).2 := ⟨_, rfl⟩
  have hq := ri g' b' _ _ HR4.out
  rw [← hn, ← hst] at hq
  rw [← hn] at Hn64 Hsp ⊢
  rw [← hst] at H4 Hsp
  have Hq := Aside0.mk hq
  clear hn hst hq
  go_wp2_with fail
  ((refine Hq.out.mono ?_); rintro e w5 ⟨rfl, h5, hg5⟩)
  have H5 := Aside0.mk h5
  have HR5 := Aside0.mk (H4.out.kept hg5 (by have := Hne.out; simp; omega) (by have := Hne.out; simp; omega))
  have HB5 := Aside0.mk (HB4.out.grown hg5 (below_size HB4.out) (by intro k hk; cases hk; exact Hg'.out.1))
  clear h5 hg5 H4 HR4 HB4 Hq
  go_wp2_with fail
  ((refine (rend g b _ _ HR5.out).mono ?_); rintro e w6 ⟨rfl, rfl⟩)
  cases he : isEnd st with
  | false =>
    clear he
    go_wp2_with fail
    ((refine (rbad g' b' _ _ H5.out).mono ?_); rintro e w7 ⟨rfl, rfl⟩)
    go_wp2_with fail
    ((refine (rbad g b _ _ HR5.out).mono ?_); rintro e w7 ⟨rfl, rfl⟩)
    go_wp2_with fail
    go_ret
    exact ⟨by simp, HB5.out⟩
  | true =>
    obtain rfl := isEnd_some he
    have hl : a0 = str (vint n) := by
      have := Hsp.out [] rfl
      rw [List.append_nil] at this
      rw [← this, str_data]
    have Hl := Aside0.mk hl
    clear he hl
    go_wp2_with fail
    (refine (uint_any w5.heap.size (.slice none 0 0) [] n w5 (Own.nil _ _ _) (Nat.le_refl _) (by simp) Hn64.out).mono ?_; rintro e w6 ⟨v6, rfl, hO6, hg6, -⟩)
    have hc6 := str_of hO6
    rw [List.nil_append, ← Hl.out] at hc6
    have HB6 := Aside0.mk (below_near (A := none) HB5.out (below_size HB5.out) hg6)
    have HR6 := Aside0.mk (H5.out.kept hg6 (by simp [Value.ownBlock]) (by simp [Value.ownBlock]))
    clear hO6 hg6 HB5 HR5 H5
    go_wp2_with fail
    (refine (int_any w6.heap.size (.slice none 0 0) [] (unzig n) w6 (Own.nil _ _ _) (Nat.le_refl _) (by simp) (unzig_ge Hn64.out).1 (unzig_ge Hn64.out).2).mono ?_; rintro e w7 ⟨v7, rfl, hO7, hg7, -⟩)
    have hc7 := str_of hO7
    rw [List.nil_append, zig_unzig, ← Hl.out] at hc7
    have HB7 := Aside0.mk (below_near (A := none) HB6.out (below_size HB6.out) hg7)
    have HR7 := Aside0.mk (HR6.out.kept hg7 (by simp [Value.ownBlock]) (by simp [Value.ownBlock]))
    clear hO7 hg7 HB6 HR6 hc6
    go_wp2_with fail
    ((refine (rend g' b' _ _ HR7.out).mono ?_); rintro e w8 ⟨rfl, rfl⟩)
    go_wp2_with fail
    go_ret
    exact ⟨rfl, HB7.out⟩
end Go.Proofs.Ytahjpeihekphcaa.N
