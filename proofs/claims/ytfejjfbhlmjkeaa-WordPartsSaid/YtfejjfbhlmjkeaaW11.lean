/- Letter and Is at a rune: the walk of the law. -/
import Derived.Test.YtfejjfbhlmjkeaaW10
set_option linter.unusedVariables false
set_option linter.unusedSimpArgs false
namespace Go.Proofs.Ytfejjfbhlmjkeaa.W
open Go.RowKit Go.Shelf Go.Proofs.YtfejjfbhlmjkeaaW.PrintWords Go.Proofs.YtfejjfbhlmjkeaaW.PrintLast Go.Proofs.Ytfejjfbhlmjkeaa.B Go.Proofs.Ytfejjfbhlmjkeaa.It

theorem isRune (c : Int) (h0 : 0 ≤ c) (hc : c < 55296 ∨ (57344 ≤ c ∧ c ≤ 1114111)) (w : World) : Calls Try.prog 15 #[.string (Utf8.encode c)] w fun e w' => e = .returned (.bool (letter c)) ∧ Below w.heap.size w w' := by
  obtain ⟨n, rfl⟩ : ∃ n : Nat, c = (n : Int) := ⟨c.toNat, by omega⟩
  have h := is_any (Utf8.encode (n : Int)) w (Nat.le_trans (encode_size n).2 (by decide))
  rw [isWord_rune n (by omega)] at h
  exact h
set_option maxRecDepth 20000 in
set_option maxHeartbeats 4000000 in
theorem wordRunes_all (c : Int) (W : World) (hc : (Lit.int .i32 c).wf = true) : Calls Try.prog 3 #[.int .i32 c] W fun e w' => e = .returned (.bool true) ∧ Below W.heap.size W w' := by
  go_enter Try.func3, Try.ntmps3
  by_cases h1 : c < 0
  · have d1 : decide (c < 0) = true := decide_eq_true h1
    clear h1 hc
    go_wp2_with (first
    | (go_at_call 12; with_reducible refine (alive_any _).mono ?_; rintro e W1 ⟨rfl, hb1⟩; have HB1 := Aside0.mk hb1; clear hb1)
    | (go_at_call 13; with_reducible refine (letter_any _ _).mono ?_; rintro e w3 ⟨rfl, rfl⟩)
    | (go_at_call 14; with_reducible refine (refLetter_any _ _).mono ?_; rintro e w3 ⟨rfl, rfl⟩))
    go_ret
    exact ⟨by simp, HB1.out⟩
  have d1 : decide (c < 0) = false := decide_eq_false h1
  by_cases h2 : 1114111 < c
  · have d2 : decide (1114111 < c) = true := decide_eq_true h2
    clear h1 h2 hc
    go_wp2_with (first
    | (go_at_call 12; with_reducible refine (alive_any _).mono ?_; rintro e W1 ⟨rfl, hb1⟩; have HB1 := Aside0.mk hb1; clear hb1)
    | (go_at_call 13; with_reducible refine (letter_any _ _).mono ?_; rintro e w3 ⟨rfl, rfl⟩)
    | (go_at_call 14; with_reducible refine (refLetter_any _ _).mono ?_; rintro e w3 ⟨rfl, rfl⟩))
    go_ret
    exact ⟨by simp, HB1.out⟩
  have d2 : decide (1114111 < c) = false := decide_eq_false h2
  by_cases h3 : 55296 ≤ c
  · have d3 : decide (55296 ≤ c) = true := decide_eq_true h3
    by_cases h4 : c ≤ 57343
    · have d4 : decide (c ≤ 57343) = true := decide_eq_true h4
      clear h1 h2 h3 h4 hc
      go_wp2_with (first
      | (go_at_call 12; with_reducible refine (alive_any _).mono ?_; rintro e W1 ⟨rfl, hb1⟩; have HB1 := Aside0.mk hb1; clear hb1)
      | (go_at_call 13; with_reducible refine (letter_any _ _).mono ?_; rintro e w3 ⟨rfl, rfl⟩)
      | (go_at_call 14; with_reducible refine (refLetter_any _ _).mono ?_; rintro e w3 ⟨rfl, rfl⟩))
      go_ret
      exact ⟨by simp, HB1.out⟩
    · have d4 : decide (c ≤ 57343) = false := decide_eq_false h4
      have Hc0 : Aside0 (0 ≤ c) := ⟨by omega⟩
      have Hcc : Aside0 (c < 55296 ∨ (57344 ≤ c ∧ c ≤ 1114111)) := ⟨by omega⟩
      clear h1 h2 h3 h4 hc
      go_wp2_with (first
    | (go_at_call 12; with_reducible refine (alive_any _).mono ?_; rintro e W1 ⟨rfl, hb1⟩; have HB1 := Aside0.mk hb1; clear hb1)
    | (go_at_call 13; with_reducible refine (letter_any _ _).mono ?_; rintro e w3 ⟨rfl, rfl⟩)
    | (go_at_call 14; with_reducible refine (refLetter_any _ _).mono ?_; rintro e w3 ⟨rfl, rfl⟩)
    | (go_at_call 15; with_reducible refine (isRune _ Hc0.out Hcc.out _).mono ?_; rintro e W2 ⟨rfl, hb2⟩; have HB2 := Aside0.mk (below_step HB1.out hb2); clear hb2))
      go_ret
      exact ⟨by simp, HB2.out⟩
  · have d3 : decide (55296 ≤ c) = false := decide_eq_false h3
    have Hc0 : Aside0 (0 ≤ c) := ⟨by omega⟩
    have Hcc : Aside0 (c < 55296 ∨ (57344 ≤ c ∧ c ≤ 1114111)) := ⟨by omega⟩
    clear h1 h2 h3 hc
    go_wp2_with (first
    | (go_at_call 12; with_reducible refine (alive_any _).mono ?_; rintro e W1 ⟨rfl, hb1⟩; have HB1 := Aside0.mk hb1; clear hb1)
    | (go_at_call 13; with_reducible refine (letter_any _ _).mono ?_; rintro e w3 ⟨rfl, rfl⟩)
    | (go_at_call 14; with_reducible refine (refLetter_any _ _).mono ?_; rintro e w3 ⟨rfl, rfl⟩)
    | (go_at_call 15; with_reducible refine (isRune _ Hc0.out Hcc.out _).mono ?_; rintro e W2 ⟨rfl, hb2⟩; have HB2 := Aside0.mk (below_step HB1.out hb2); clear hb2))
    go_ret
    exact ⟨by simp, HB2.out⟩
end Go.Proofs.Ytfejjfbhlmjkeaa.W
