/- Items that are put and read: back as a function of the reader's state; what is put is read again, and what is cut isn't. -/
import Derived.Test.YtahjpeihekphcaaN14
set_option linter.unusedVariables false
set_option linter.unusedSimpArgs false
namespace Go.Proofs.Ytahjpeihekphcaa.N
open Go.RowKit Go.Proofs.YtahjpeihekphcaaW.PrintWords Go.Proofs.YtahjpeihekphcaaW.PrintLast Go.Proofs.Ytahjpeihekphcaa.Bt Go.Proofs.Ytahjpeihekphcaa.B Go.Proofs.Ytahjpeihekphcaa.Vi Go.Proofs.Ytahjpeihekphcaa.Reg

/-- Whether the next item is this one, and the state behind it. -/
noncomputable def It.read (x : It) (st : Option (List UInt8)) : Bool × Option (List UInt8) :=
  if x.kind = 0 then (((nxt x.n st).1 : Int) == (x.n : Int), (nxt x.n st).2)
  else if x.kind = 1 then (unzig (nxt 18446744073709551615 st).1 == wrap64 (x.n : Int), (nxt 18446744073709551615 st).2)
  else if x.kind = 2 then ((str (txt x.s.size st).1).toList == x.s.toList, (txt x.s.size st).2)
  else (decide ((nxt 1 st).1 = 1) == ((x.n : Int) % 2 == 1), (nxt 1 st).2)
theorem back_any (g b : Nat) (st : Option (List UInt8)) (x : It) (w : World) (hR : RS w g b st) (hn : x.n < 18446744073709551616) (hs : x.s.size ≤ 4611686018427) :
    Calls Try.prog 40 #[.pointer (some ⟨g, 0, none⟩), x.val] w fun e w' => e = .returned (.bool (x.read st).1) ∧ RS w' g b (x.read st).2 ∧ w.grownBy w' (some g) := by
  obtain ⟨kind, n, s⟩ := x
  simp only at hn hs
  unfold It.read It.val
  simp only
  by_cases k0 : kind = 0
  · rw [if_pos k0]
    exact back_c0 g b st _ kind n s w hR (by simpa using k0) _ ⟨fun W h => ru g b st n W hn h⟩
  have h0 : (kind == 0) = false := by simpa using k0
  rw [if_neg k0]
  by_cases k1 : kind = 1
  · rw [if_pos k1]
    exact back_c1 g b st _ kind n s w hR h0 (by simpa using k1) _ ⟨fun W h => ri g b st W h⟩
  have h1 : (kind == 1) = false := by simpa using k1
  rw [if_neg k1]
  by_cases k2 : kind = 2
  · rw [if_pos k2]
    exact back_c2 g b st _ kind n s w hR h0 h1 (by simpa using k2) _ ⟨fun W h => rt g b st (s.size : Int) s.size W (by omega) hs h⟩
  have h2 : (kind == 2) = false := by simpa using k2
  rw [if_neg k2]
  exact back_c3 g b st _ kind n s w hR h0 h1 h2 _ ⟨fun W h => rb g b st W h⟩
theorem txt_none (m : Nat) : txt m none = ([], none) := by
  unfold txt
  rw [nxt_none]
/-- What is wrong is so for good. -/
theorem read_none (x : It) : (x.read none).2 = none := by
  unfold It.read
  rw [nxt_none, nxt_none, nxt_none, txt_none]
  split
  · rfl
  split
  · rfl
  split
  · rfl
  · rfl
/-- What is put is read again to the same. -/
theorem read_put (x : It) (r : List UInt8) (hn : x.n < 18446744073709551616) (hs : x.s.size ≤ 4611686018427) : x.read (some (x.bytes ++ r)) = (true, some r) := by
  obtain ⟨kind, n, s⟩ := x
  simp only at hn hs
  unfold It.read It.bytes
  simp only
  by_cases k0 : kind = 0
  · rw [if_pos k0, if_pos k0, nxt_yes hn (Nat.le_refl _)]
    simp
  rw [if_neg k0, if_neg k0]
  by_cases k1 : kind = 1
  · have hz : zig (wrap64 (n : Int)) < 18446744073709551616 := zig_lt (wrap64_ge _).1 (wrap64_ge _).2
    rw [if_pos k1, if_pos k1, nxt_yes hz (by omega)]
    simp only
    rw [unzig_zig]
    simp
  rw [if_neg k1, if_neg k1]
  by_cases k2 : kind = 2
  · have ht := @txt_yes s.data.toList r (by rw [data_length]; exact hs)
    rw [data_length] at ht
    rw [if_pos k2, if_pos k2, List.append_assoc, ht, str_data]
    simp
  rw [if_neg k2, if_neg k2, nxt_yes (by split <;> decide) (by split <;> decide)]
  simp only
  rcases Nat.mod_two_eq_zero_or_one n with h | h
  · have : ((n : Int) % 2 == 1) = false := by simpa using (by omega : ¬ (n : Int) % 2 = 1)
    rw [this, h]
    rfl
  · have : ((n : Int) % 2 == 1) = true := by simpa using (by omega : (n : Int) % 2 = 1)
    rw [this, h]
    rfl
/-- What is read out of a beginning leaves the beginning of the rest. -/
theorem read_cut (x : It) (l z t r : List UInt8) (hs : x.s.size ≤ 4611686018427) (h : (x.read (some l)).2 = some r) (he : l ++ z = x.bytes ++ t) : r ++ z = t := by
  obtain ⟨kind, n, s⟩ := x
  simp only at hs
  unfold It.read at h
  unfold It.bytes at he
  simp only at h he
  have key : ∀ {m q : Nat} {r : List UInt8} {t : List UInt8}, (nxt m (some l)).2 = some r → l ++ z = vint q ++ t → (nxt m (some l)).1 = q ∧ r ++ z = t := by
    intro m q r t h1 h2
    have h3 := nxt_spec h1
    rw [h3, List.append_assoc] at h2
    have := vint_inj h2
    exact this
  by_cases k0 : kind = 0
  · rw [if_pos k0] at h he
    exact (key h he).2
  rw [if_neg k0] at h he
  by_cases k1 : kind = 1
  · rw [if_pos k1] at h he
    exact (key h he).2
  rw [if_neg k1] at h he
  by_cases k2 : kind = 2
  · rw [if_pos k2] at h he
    unfold txt at h
    rw [List.append_assoc] at he
    cases hn : (nxt s.size (some l)).2 with
    | none => rw [hn] at h; cases h
    | some r1 =>
      rw [hn] at h
      simp only at h
      obtain ⟨k1, k2⟩ := key hn he
      rw [k1] at h
      by_cases hl : r1.length < s.size
      · rw [if_pos hl] at h; cases h
      · rw [if_neg hl] at h
        simp only [Option.some.injEq] at h
        have h5 := congrArg (List.drop s.size) k2
        have h6 : List.drop s.size (s.data.toList ++ t) = t := by
          rw [← data_length s]
          exact List.drop_left
        rw [h6, List.drop_append_of_le_length (by omega)] at h5
        rw [← h, h5]
  rw [if_neg k2] at h he
  exact (key h he).2
/-- All of them read, one behind the other. -/
noncomputable def readAll (xs : List It) (st : Option (List UInt8)) : Option (List UInt8) := xs.foldl (fun st x => (x.read st).2) st
theorem readAll_none (xs : List It) : readAll xs none = none := by
  induction xs with
  | nil => rfl
  | cons x xs ih => unfold readAll at ih ⊢; rw [List.foldl_cons, read_none]; exact ih
theorem readAll_cut (xs : List It) : ∀ (l z : List UInt8), (∀ x ∈ xs, x.s.size ≤ 4611686018427) → z ≠ [] → l ++ z = xs.flatMap It.bytes → readAll xs (some l) = none := by
  induction xs with
  | nil =>
    intro l z _ hz he
    have := congrArg List.length he
    have hz' : z.length ≠ 0 := fun h => hz (List.eq_nil_of_length_eq_zero h)
    simp at this
    exact absurd this.2 hz
  | cons x xs ih =>
    intro l z hs hz he
    rw [List.flatMap_cons] at he
    unfold readAll
    rw [List.foldl_cons]
    cases hx : (x.read (some l)).2 with
    | none => exact readAll_none xs
    | some r => exact ih r z (fun y hy => hs y (List.mem_cons_of_mem _ hy)) hz (read_cut x l z _ r (hs x (List.mem_cons_self ..)) hx he)
/-- How many bytes an item has. -/
theorem bytes_le (x : It) (hn : x.n < 18446744073709551616) (hs : x.s.size ≤ 100) : x.bytes.length ≤ 110 := by
  unfold It.bytes
  split
  · have := vint_le10 hn; omega
  split
  · have := vint_le10 (zig_lt (wrap64_ge (x.n : Int)).1 (wrap64_ge (x.n : Int)).2); omega
  split
  · have h2 : (vint x.s.size).length ≤ 10 := vint_le10 (by omega)
    rw [List.length_append, data_length]
    omega
  · have : (vint (if x.n % 2 = 1 then 1 else 0)).length ≤ 10 := vint_le10 (by split <;> decide)
    omega
end Go.Proofs.Ytahjpeihekphcaa.N
