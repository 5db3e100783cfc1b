/- Same of the reference, and what the laws of words ask first. -/
import Derived.Test.YtfejjfbhlmjkeaaDoorW8
import Derived.Test.YtfejjfbhlmjkeaaDoorPWordIsx1
set_option linter.unusedVariables false
set_option linter.unusedSimpArgs false
namespace Go.Proofs.YtfejjfbhlmjkeaaDoor.W
open Go.RowKit Go.Shelf Go.Proofs.YtfejjfbhlmjkeaaDoorW.PrintWords Go.Proofs.YtfejjfbhlmjkeaaDoorW.PrintLast Go.Proofs.YtfejjfbhlmjkeaaDoor.B Go.Proofs.YtfejjfbhlmjkeaaDoor.It Go.Proofs.YtfejjfbhlmjkeaaDoor.PWordIs
attribute [local go_sem] Oper.semAt_some

/-- Whether two rows of texts are the same. -/
def sameB (xs ys : List ByteArray) : Bool := (xs.map ByteArray.toList) == (ys.map ByteArray.toList)
theorem sameB_cons (x y : ByteArray) (xs ys : List ByteArray) : sameB (x :: xs) (y :: ys) = ((x.toList == y.toList) && sameB xs ys) := by
  unfold sameB; rw [List.map_cons, List.map_cons]; rfl
theorem sameB_iff : ∀ xs ys : List ByteArray, sameB xs ys = true ↔ xs = ys
  | [], [] => by simp [sameB]
  | [], _ :: _ => by simp [sameB]
  | _ :: _, [] => by simp [sameB]
  | x :: xs, y :: ys => by rw [sameB_cons, Bool.and_eq_true, text_iff, sameB_iff xs ys, List.cons.injEq]
theorem sameB_len {xs ys : List ByteArray} (h : xs.length ≠ ys.length) : sameB xs ys = false := by
  cases hs : sameB xs ys with
  | false => rfl
  | true => exact absurd (congrArg List.length ((sameB_iff xs ys).1 hs)) h
theorem w64_in (n : Int) (h : 0 ≤ n ∧ n ≤ 9223372036854775807) : wrap64 n = n := by unfold wrap64; omega
theorem rdOf_at (xs : List ByteArray) (i : Nat) (h : i < xs.length) : rdOf ByteArray.empty xs (i : Int) = xs[i] := by
  unfold rdOf
  rw [Int.toNat_natCast, List.getD_eq_getElem?_getD, List.getElem?_eq_getElem h]
  rfl
theorem same_l0 (xs ys : List ByteArray) (hl : xs.length = ys.length) (hm : xs.length ≤ 4611686018427) : ∀ (k i : Nat), xs.length - i < k → i ≤ xs.length → magpieref03_Same.l0 k xs ys (xs.length : Int) (i : Int) = some (sameB (xs.drop i) (ys.drop i)) := by
  intro k
  induction k with
  | zero => intro i h; omega
  | succ k ih =>
    intro i h hi
    unfold magpieref03_Same.l0
    by_cases hlt : i < xs.length
    · rw [if_pos (by omega), if_pos (by omega), if_pos (by omega), if_pos (by omega), rdOf_at _ _ hlt, rdOf_at _ _ (by omega), w64_in _ (by omega)]
      rw [List.drop_eq_getElem_cons hlt, List.drop_eq_getElem_cons (show i < ys.length by omega), sameB_cons]
      by_cases he : xs[i].toList = ys[i].toList
      · rw [if_pos he, (by simpa using he : (xs[i].toList == ys[i].toList) = true), Bool.true_and]
        have := ih (i + 1) (by omega) (by omega)
        rw [← this]
        rfl
      · rw [if_neg he, (by simpa using he : (xs[i].toList == ys[i].toList) = false), Bool.false_and]
    · rw [if_neg (by omega), List.drop_of_length_le (by omega), List.drop_of_length_le (by omega)]
      rfl
theorem same_f (xs ys : List ByteArray) (hm : xs.length ≤ 4611686018427) : magpieref03_Same.f (xs.length + 1) xs ys = some (sameB xs ys) := by
  unfold magpieref03_Same.f
  by_cases hl : xs.length = ys.length
  · rw [if_pos (by omega)]
    have := same_l0 xs ys hl hm (xs.length + 1) 0 (by omega) (by omega)
    simpa using this
  · rw [if_neg (by omega), sameB_len hl]
/-- A slice of texts that is read. -/
def ReadsS (w : World) (v : Value) (xs : List ByteArray) : Prop := ∃ A c, v = .slice A xs.length c ∧ xs.length ≤ c ∧ xs.length ≤ 9223372036854775807 ∧ (0 < xs.length → ∃ ad, A = some ad ∧ ∀ j, j < xs.length → w.cell? (ad.add j) = some (.string (xs.getD j ByteArray.empty)))
theorem ReadsS.below {w w' : World} {v : Value} {xs : List ByteArray} (h : ReadsS w v xs) (hb : Below w.heap.size w w') : ReadsS w' v xs := by
  obtain ⟨A, c, h1, h2, h3, h4⟩ := h
  exact ⟨A, c, h1, h2, h3, fun h0 => by obtain ⟨ad, ha, hc⟩ := h4 h0; exact ⟨ad, ha, fun j hj => pw_cell_below hb (hc j hj)⟩⟩
theorem getD_map (xs : List ByteArray) (j : Nat) (hj : j < xs.length) : (xs.map Value.string)[j]? = some (.string (xs.getD j ByteArray.empty)) := by
  rw [List.getElem?_map, List.getD_eq_getElem?_getD, List.getElem?_eq_getElem hj]
  rfl
theorem readsS_own {w : World} {base : Nat} {e : TypeId} {v : Value} {xs : List ByteArray} (h : B.Own w base e v (xs.map .string)) : ReadsS w v xs := by
  obtain ⟨A, c, hv, h1, h2⟩ := h.shape
  rw [List.length_map] at hv h1 h2
  refine ⟨A, c, hv, h1, h2, fun h0 => ?_⟩
  rcases h with ⟨rfl, h3⟩ | ⟨g, cap, cur, fz, h3, h4⟩
  · rw [List.map_eq_nil_iff] at h3
    subst h3
    cases h0
  · rw [hv] at h3
    obtain rfl : A = some ⟨g, 0, none⟩ := by injection h3
    refine ⟨_, rfl, fun j hj => ?_⟩
    have ho : B.Own w base e (.slice (some ⟨g, 0, none⟩) (xs.map Value.string).length cap) (xs.map .string) := .inr ⟨g, cap, cur, fz, rfl, h4⟩
    exact ho.cells rfl j _ (getD_map xs j hj)
theorem readsS_new (w : World) (t : TypeId) (xs : List ByteArray) (hl : xs.length ≤ 9223372036854775807) : ReadsS (w.alloc (.cells (xs.map Value.string).toArray t)) (.slice (some ⟨w.heap.size, 0, none⟩) xs.length xs.length) xs :=
  ⟨_, _, rfl, Nat.le_refl _, hl, fun _ => ⟨_, rfl, fun j hj => news_row w (xs.map Value.string) t _ rfl j _ (getD_map xs j hj)⟩⟩
theorem same_any {w : World} {v0 v1 : Value} {xs ys : List ByteArray} (h0 : ReadsS w v0 xs) (h1 : ReadsS w v1 ys) (hm : xs.length ≤ 4611686018427) : Calls Tryd.prog 15 #[v0, v1] w fun e w' => e = .returned (.bool (sameB xs ys)) ∧ Below w.heap.size w w' := by
  obtain ⟨A0, c0, rfl, a1, a2, a3⟩ := h0
  obtain ⟨A1, c1, rfl, b1, b2, b3⟩ := h1
  refine (magpieref03_Same.calls (xs.length + 1) A0 c0 xs A1 c1 ys _ w (Kd.C_of_reads (d := ByteArray.empty) ⟨rfl, a2, a3⟩) a1 (Kd.C_of_reads (d := ByteArray.empty) ⟨rfl, b2, b3⟩) b1 (same_f xs ys hm)).mono ?_
  rintro e w' ⟨rfl, hd⟩
  exact ⟨rfl, hd.below⟩
end Go.Proofs.YtfejjfbhlmjkeaaDoor.W
