/- The reference's Good: plain; RecordIs: the walk of the law. -/
import Derived.Test.YtfejjfbhlmjkeaaE8
import Derived.Lib.ConvBytes
set_option linter.unusedVariables false
set_option linter.unusedSimpArgs false
namespace Go.Proofs.Ytfejjfbhlmjkeaa.C
open Go.RowKit Go.Proofs.YtfejjfbhlmjkeaaW.PrintWords Go.Proofs.YtfejjfbhlmjkeaaW.PrintLast Go.Proofs.YtfejjfbhlmjkeaaW.PrintMore Go.Proofs.Ytfejjfbhlmjkeaa.B Go.Proofs.Ytfejjfbhlmjkeaa.Reg Go.Proofs.Ytfejjfbhlmjkeaa.PRecordIs Go.Proofs.Ytfejjfbhlmjkeaa.CQ Go.Proofs.Ytfejjfbhlmjkeaa.Vi Go.Proofs.Ytfejjfbhlmjkeaa.N Go.Proofs.Ytfejjfbhlmjkeaa.Bt

def labsRest (xs : List S47) : Nat → Nat → Bool
  | _, 0 => true
  | i, m + 1 => labAt xs i && labsRest xs (i + 1) m
theorem labsOk_rest (xs : List S47) : ∀ m i, labsOk xs (i + m) = (labsOk xs i && labsRest xs i m)
  | 0, i => by simp [labsRest]
  | m + 1, i => by
    have ih := labsOk_rest xs m (i + 1)
    rw [show i + (m + 1) = i + 1 + m by omega, ih]
    simp only [labsOk, labsRest, Bool.and_assoc]
theorem lineOk_eq {s : ByteArray} (h : s.size ≤ 200) : lineOk s = !s.data.toList.any fun b => decide (b.toNat = 10) := by
  unfold lineOk
  rw [decide_eq_true h, Bool.true_and, contains_10]
theorem refGood_l0 (at_ : Int) (xs : List S47) (s : ByteArray) (hs : s.size ≤ 200) (hm : xs.length ≤ 4) (hn : ∀ x ∈ xs, x.f0.size ≤ 200) : ∀ (k i : Nat), (xs.length - i) + 600 ≤ k → i ≤ xs.length →
    magpieref04_Good.l0 k xs (xs.length : Int) (i : Int) at_ xs s = some (labsRest xs i (xs.length - i) && lineOk s)
  | 0, i, h, hi => by omega
  | k + 1, i, h, hi => by
    rw [magpieref04_Good.l0]
    by_cases hlt : i < xs.length
    · have ih := refGood_l0 at_ xs s hs hm hn k (i + 1) (by omega) (by omega)
      have hnm := hn xs[i] (List.getElem_mem hlt)
      rw [if_pos (by omega), if_pos (by omega), if_pos (by omega), at47 hlt, refName_f _ (by omega) k (by omega), w64_in ((i : Int) + 1) (by omega)]
      rw [show ((i : Int) + 1) = ((i + 1 : Nat) : Int) by omega, ih, ← nameB_eq]
      obtain ⟨m, hmm⟩ : ∃ m, xs.length - i = m + 1 := ⟨xs.length - i - 1, by omega⟩
      rw [hmm, show xs.length - (i + 1) = m by omega]
      simp only [Option.bind_some, labsRest]
      unfold labAt
      rw [getD47 hlt]
      cases nameB xs[i].f0 with
      | false => rfl
      | true =>
        rw [if_pos rfl, Bool.true_and]
        by_cases h20 : xs[i].f1.size ≤ 20
        · rw [if_neg (by omega), decide_eq_true h20, Bool.true_and]
          by_cases h0 : i = 0
          · subst h0
            rw [if_neg (by omega)]
            simp
          · rw [if_pos (by omega), w64_in ((i : Int) - 1) (by omega), if_pos (by omega), if_pos (by omega)]
            rw [show ((i : Int) - 1) = ((i - 1 : Nat) : Int) by omega, at47 (show i - 1 < xs.length by omega), getD47 (show i - 1 < xs.length by omega)]
            have hz : (i == 0) = false := by simp [h0]
            rw [hz, Bool.false_or]
            cases Op.bytesLess xs[i - 1].f0.toList xs[i].f0.toList <;> simp
        · rw [if_pos (by omega), decide_eq_false h20]; rfl
    · rw [if_neg (by omega), show xs.length - i = 0 by omega]
      have := refGood_l1 at_ xs s (by omega) k 0 (by omega) (by omega)
      rw [List.drop_zero] at this
      rw [lineOk_eq hs]
      simp only [labsRest, Bool.true_and]
      exact this
theorem refGood_f (x : Key) (hn : ∀ y ∈ x.ls, y.f0.size ≤ 200) : magpieref04_Good.f 700 x.at_ x.ls x.line = some (goodE x) := by
  unfold magpieref04_Good.f goodE timeOk goodL
  by_cases h1 : x.at_ ≤ 1099511627776
  · rw [if_neg (by omega), decide_eq_true h1, Bool.and_true]
    by_cases h2 : -1099511627776 ≤ x.at_
    · rw [if_neg (by omega), decide_eq_true h2, Bool.true_and]
      by_cases h3 : x.ls.length ≤ 4
      · rw [if_neg (by omega), decide_eq_true h3, Bool.and_true, magpieref04_Good.j0]
        by_cases h4 : x.line.size ≤ 200
        · rw [if_neg (by rw [decide_eq_true_iff]; omega)]
          have := refGood_l0 x.at_ x.ls x.line h4 h3 hn 699 0 (by omega) (by omega)
          have e := labsOk_rest x.ls x.ls.length 0
          rw [Nat.zero_add] at e
          rw [e, show labsOk x.ls 0 = true from rfl, Bool.true_and]
          exact this
        · rw [if_pos (decide_eq_true (by omega))]
          unfold lineOk
          rw [decide_eq_false h4]; simp
      · rw [if_pos (by omega), magpieref04_Good.j0, if_pos rfl, decide_eq_false h3]; simp
    · rw [if_pos (by omega), magpieref04_Good.j0, if_pos rfl, decide_eq_false h2]; simp
  · rw [if_pos (by omega), magpieref04_Good.j0, if_pos rfl, decide_eq_false h1]; simp
theorem refGood_any (x : Ent) (w : World) (hx : x.In w) (hn : ∀ y ∈ x.ls, y.f0.size ≤ 200) : Calls Try.prog 33 #[x.val] w fun e w' => e = .returned (.bool (goodE x.key)) ∧ Below w.heap.size w w' :=
  magpieref04_Good.calls 700 x.at_ x.A x.c x.ls x.line _ w hx.lies hx.cap (refGood_f x.key hn)
end Go.Proofs.Ytfejjfbhlmjkeaa.C
