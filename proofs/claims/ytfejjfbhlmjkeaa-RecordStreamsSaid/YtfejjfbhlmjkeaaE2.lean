/- The reference's order of entries: plain; and all that compares, from a world on. -/
import Derived.Test.YtfejjfbhlmjkeaaE1
import Derived.Test.YtfejjfbhlmjkeaaPb
set_option linter.unusedVariables false
set_option linter.unusedSimpArgs false
namespace Go.Proofs.Ytfejjfbhlmjkeaa.C
open Go.RowKit Go.Sort Go.Proofs.YtfejjfbhlmjkeaaW.PrintWords Go.Proofs.YtfejjfbhlmjkeaaW.PrintLast Go.Proofs.YtfejjfbhlmjkeaaW.PrintMore Go.Proofs.Ytfejjfbhlmjkeaa.B Go.Proofs.Ytfejjfbhlmjkeaa.PRecordIs Go.Proofs.Ytfejjfbhlmjkeaa.CQ

/-- Does an entry come ahead of another one? -/
def bef (a b : Key) : Bool := decide (cmpE a b = -1)
theorem less_c (x y : ByteArray) : Op.bytesLess x.toList y.toList = decide (cmpS x y = -1) := by
  rw [Bool.eq_iff_iff, decide_eq_true_iff, cmpS_m]
theorem eq_c (x y : ByteArray) : x.toList = y.toList ↔ cmpS x y = 0 := by
  rw [cmpS_c.eq0]
  exact ⟨toList_inj, fun h => by rw [h]⟩
def rest (xs ys : List S47) (la lb : ByteArray) : Int := if cmpR cmpN xs ys = 0 then cmpS la lb else cmpR cmpN xs ys
theorem before_l (at1 at2 : Int) (xs ys : List S47) (la lb : ByteArray) (hx : xs.length ≤ 100000) (hy : ys.length ≤ 100000) : ∀ (k i : Nat), 2 * (xs.length - i) + 2 ≤ k → i ≤ xs.length → i ≤ ys.length →
    magpieref04_Before.l0 k (i : Int) at1 xs la at2 ys lb = some (decide (rest (xs.drop i) (ys.drop i) la lb = -1))
  | 0, i, h, _, _ => by omega
  | 1, i, h, _, _ => by omega
  | k + 2, i, h, h1, h2 => by
    rw [magpieref04_Before.l0]
    by_cases hlt : i < xs.length
    · rw [if_pos (by omega), magpieref04_Before.j1]
      by_cases hlt2 : i < ys.length
      · have ih := before_l at1 at2 xs ys la lb hx hy k (i + 1) (by omega) (by omega) (by omega)
        rw [if_pos (decide_eq_true (by omega)), if_pos (by omega), if_pos (by omega), if_pos (by omega), at47 hlt, at47 hlt2, w64_in _ (by omega), show ((i : Int) + 1) = ((i + 1 : Nat) : Int) by omega, ih]
        have hr : rest (xs.drop i) (ys.drop i) la lb = if cmpN xs[i] ys[i] = 0 then rest (xs.drop (i + 1)) (ys.drop (i + 1)) la lb else cmpN xs[i] ys[i] := by
          unfold rest
          rw [cmpR_drop xs ys i hlt hlt2]
          by_cases h0 : cmpN xs[i] ys[i] = 0
          · rw [if_pos h0, if_pos h0]
          · rw [if_neg h0, if_neg h0, if_neg h0]
        rw [hr]
        unfold cmpN
        by_cases e0 : cmpS xs[i].f0 ys[i].f0 = 0
        · rw [if_pos ((eq_c _ _).2 e0), if_pos e0]
          by_cases e1 : cmpS xs[i].f1 ys[i].f1 = 0
          · rw [if_pos ((eq_c _ _).2 e1), if_pos e1]
          · rw [if_neg (fun h => e1 ((eq_c _ _).1 h)), if_neg e1, less_c]
        · rw [if_neg (fun h => e0 ((eq_c _ _).1 h)), if_neg e0, if_neg e0, less_c]
      · rw [if_neg (by rw [decide_eq_true_iff]; omega), if_neg (by omega), decide_eq_false (show ¬ (xs.length : Int) < ys.length by omega)]
        have hr : rest (xs.drop i) (ys.drop i) la lb = 1 := by
          unfold rest
          rw [List.drop_eq_getElem_cons hlt, (List.drop_eq_nil_of_le (by omega) : ys.drop i = [])]
          rfl
        rw [hr]; rfl
    · rw [if_neg (by omega), magpieref04_Before.j1, if_neg (by simp)]
      by_cases he : xs.length = ys.length
      · rw [if_pos (by omega), less_c]
        unfold rest
        rw [(List.drop_eq_nil_of_le (by omega) : xs.drop i = []), (List.drop_eq_nil_of_le (by omega) : ys.drop i = [])]
        rfl
      · rw [if_neg (by omega), decide_eq_true (show (xs.length : Int) < ys.length by omega)]
        have hr : rest (xs.drop i) (ys.drop i) la lb = -1 := by
          unfold rest
          rw [(List.drop_eq_nil_of_le (by omega) : xs.drop i = []), List.drop_eq_getElem_cons (show i < ys.length by omega)]
          rfl
        rw [hr]; rfl
theorem before_f (a b : Key) (hx : a.ls.length ≤ 100000) (hy : b.ls.length ≤ 100000) : magpieref04_Before.f 200002 a.at_ a.ls a.line b.at_ b.ls b.line = some (bef a b) := by
  unfold magpieref04_Before.f bef cmpE
  by_cases h : a.at_ = b.at_
  · rw [if_pos h, if_pos ((cmpI_c.eq0 _ _).2 h)]
    exact before_l a.at_ b.at_ a.ls b.ls a.line b.line hx hy 200002 0 (by omega) (by omega) (by omega)
  · rw [if_neg h, if_neg (fun e => h ((cmpI_c.eq0 _ _).1 e))]
    congr 1
    rw [Bool.eq_iff_iff, decide_eq_true_iff, decide_eq_true_iff]
    unfold cmpI
    split
    · omega
    · split <;> omega
theorem before_any (x y : Ent) (w : World) (hx : x.In w) (hy : y.In w) : Calls Try.prog 21 #[x.val, y.val] w fun e w' => e = .returned (.bool (bef x.key y.key)) ∧ Below w.heap.size w w' :=
  magpieref04_Before.calls 200002 x.at_ x.A x.c x.ls x.line y.at_ y.A y.c y.ls y.line _ w hx.lies hx.cap hy.lies hy.cap (before_f x.key y.key hx.few hy.few)
theorem great_few {k : Key} (h : greatB k = false) : k.ls.length ≤ 20 ∧ k.line.size ≤ 1000 ∧ ∀ x ∈ k.ls, x.f0.size ≤ 200 ∧ x.f1.size ≤ 200 := by
  unfold greatB at h
  simp only [Bool.or_eq_false_iff, decide_eq_false_iff_not] at h
  obtain ⟨h1, h2, h3⟩ := h
  refine ⟨by omega, by omega, fun x hx => ?_⟩
  have h4 := List.any_eq_false.1 h3 x hx
  unfold bigL at h4
  simp only [Bool.or_eq_true, decide_eq_true_eq, not_or] at h4
  omega
theorem want_of (a b : Key) : (if bef b a = true then 1 else if bef a b = true then -1 else 0) = cmpE a b := by
  unfold bef
  have an := cmpE_c.anti a b
  rcases cmpE_c.tri a b with h | h | h
  · rw [if_neg (by rw [decide_eq_true_iff]; omega), if_pos (by rw [decide_eq_true_iff]; exact h), h]
  · rw [if_neg (by rw [decide_eq_true_iff]; omega), if_neg (by rw [decide_eq_true_iff]; omega), h]
  · rw [if_pos (by rw [decide_eq_true_iff]; omega), h]
/-- The order is one. -/
theorem one_order (a b c : Key) : (!(decide (cmpE a b ≤ 0) && decide (cmpE b c ≤ 0)) || (decide (cmpE a c ≤ 0) && (decide (cmpE a c < 0) || (decide (cmpE a b = 0) && decide (cmpE b c = 0))))) = true := by
  rcases cmpE_c.tri a b with h | h | h
  · rcases cmpE_c.tri b c with k | k | k
    · rw [cmpE_c.trans _ _ _ h k, h, k]; rfl
    · rw [← (cmpE_c.eq0 _ _).1 k, h, (cmpE_c.eq0 b b).2 rfl]; rfl
    · rw [h, k]; rfl
  · rw [(cmpE_c.eq0 _ _).1 h]
    rcases cmpE_c.tri b c with k | k | k
    · rw [k]; simp
    · rw [k, (cmpE_c.eq0 b b).2 rfl]; simp
    · rw [k, (cmpE_c.eq0 b b).2 rfl]; simp
  · rw [h]; simp
end Go.Proofs.Ytfejjfbhlmjkeaa.C
