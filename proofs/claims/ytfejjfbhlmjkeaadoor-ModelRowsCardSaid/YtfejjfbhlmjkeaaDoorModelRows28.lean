/- Texts of this claim (printed ones, too), put together by a program that left out what the claim does not use. -/
import Derived.Lib.SplitLaws
import Derived.Lib.IndexLaws
import Derived.Lib.IndexBytes
import Derived.Test.YtfejjfbhlmjkeaaDoorModelRows27
import Derived.Test.YtfejjfbhlmjkeaaDoorModelRows22
section
namespace Go.Proofs.YtfejjfbhlmjkeaaDoor.B
end Go.Proofs.YtfejjfbhlmjkeaaDoor.B
namespace Go.Proofs.YtfejjfbhlmjkeaaDoor.PModelMore
end Go.Proofs.YtfejjfbhlmjkeaaDoor.PModelMore
namespace Go.Proofs.YtfejjfbhlmjkeaaDoor.W
end Go.Proofs.YtfejjfbhlmjkeaaDoor.W
set_option linter.unusedVariables false
set_option linter.unusedSimpArgs false
namespace Go.Proofs.YtfejjfbhlmjkeaaDoor.M
open Go.RowKit Go.Proofs.YtfejjfbhlmjkeaaDoorW.PrintWords Go.Proofs.YtfejjfbhlmjkeaaDoorW.PrintLast Go.Proofs.YtfejjfbhlmjkeaaDoorW.PrintMore Go.Proofs.YtfejjfbhlmjkeaaDoor.B Go.Proofs.YtfejjfbhlmjkeaaDoor.W Go.Proofs.YtfejjfbhlmjkeaaDoor.PModelMore
/-- The pieces of a row of bytes between its blanks. -/
def pcs : List UInt8 → List (List UInt8)
  | [] => [[]]
  | c :: t => if c = 32 then [] :: pcs t else match pcs t with
    | [] => [[c]]
    | h :: r => (c :: h) :: r
theorem pcs_ne : ∀ l, pcs l ≠ []
  | [] => by simp [pcs]
  | c :: t => by
    unfold pcs
    split
    · simp
    · split <;> simp
theorem pcs_blank : ∀ (a b : List UInt8), pcs (a ++ 32 :: b) = pcs a ++ pcs b
  | [], b => by simp [pcs]
  | c :: a, b => by
    have ih := pcs_blank a b
    rw [List.cons_append, pcs.eq_def (c :: (a ++ 32 :: b)), pcs.eq_def (c :: a)]
    simp only
    by_cases hc : c = 32
    · rw [if_pos hc, if_pos hc, ih]; rfl
    · rw [if_neg hc, if_neg hc, ih]
      cases h : pcs a with
      | nil => exact absurd h (pcs_ne a)
      | cons x r => rfl
theorem pcs_none : ∀ l : List UInt8, (∀ x ∈ l, x ≠ 32) → pcs l = [l]
  | [], _ => rfl
  | c :: t, h => by
    rw [pcs.eq_def]
    simp only
    rw [if_neg (h c (List.mem_cons_self ..)), pcs_none t (fun x hx => h x (List.mem_cons_of_mem _ hx))]
theorem pcs_at (l : List UInt8) (i : Nat) (hi : l[i]? = some 32) (hb : ∀ k, k < i → l[k]? ≠ some 32) : pcs l = l.take i :: pcs (l.drop (i + 1)) := by
  obtain ⟨hlt, he⟩ := List.getElem?_eq_some_iff.1 hi
  have e : l = l.take i ++ 32 :: l.drop (i + 1) := by
    rw [← he, ← List.drop_eq_getElem_cons hlt, List.take_append_drop]
  have hn : ∀ x ∈ l.take i, x ≠ 32 := by
    intro x hx hx32
    obtain ⟨k, hk, hkx⟩ := List.mem_iff_getElem.1 hx
    rw [List.length_take] at hk
    refine hb k (by omega) ?_
    rw [List.getElem_take] at hkx
    rw [List.getElem?_eq_getElem (by omega), hkx, hx32]
  rw [show pcs l = pcs (l.take i ++ 32 :: l.drop (i + 1)) from congrArg pcs e, pcs_blank, pcs_none _ hn]
  rfl
theorem no_blank {l : List UInt8} (h : ∀ k : Nat, l[k]? ≠ some 32) : ∀ x ∈ l, x ≠ 32 := by
  intro x hx e
  obtain ⟨k, hk, hkx⟩ := List.mem_iff_getElem.1 hx
  exact h k (by rw [List.getElem?_eq_getElem hk, hkx, e])
theorem split_pcs : ∀ (k : Nat) (l : List UInt8), l.count 32 ≤ k → Lib.splitK [32] 0 k l = pcs l := by
  intro k
  induction k with
  | zero =>
    intro l h
    unfold Lib.splitK
    rw [pcs_none l (fun x hx e => by subst e; have := List.count_pos_iff.2 hx; omega)]
  | succ k ih =>
    intro l h
    unfold Lib.splitK
    rw [Lib.index_one]
    by_cases hm : Lib.indexByte l 32 = -1
    · rw [if_pos (by rw [hm]; rfl), pcs_none l (no_blank (Lib.indexByte_none hm))]
    · have hge := Lib.indexByte_ge l 32
      obtain ⟨i, hi⟩ : ∃ i : Nat, Lib.indexByte l 32 = i := ⟨(Lib.indexByte l 32).toNat, by omega⟩
      obtain ⟨h1, h2⟩ := Lib.indexByte_some hi
      rw [if_neg (by rw [hi]; simp), hi, pcs_at l i h1 h2]
      obtain ⟨hlt, he⟩ := List.getElem?_eq_some_iff.1 h1
      have e : l = l.take i ++ 32 :: l.drop (i + 1) := by
        rw [← he, ← List.drop_eq_getElem_cons hlt, List.take_append_drop]
      have hc : (l.drop (i + 1)).count 32 ≤ k := by
        have h3 := congrArg (List.count (32 : UInt8)) e
        rw [List.count_append, List.count_cons_self] at h3
        omega
      simp only [Int.toNat_natCast, Nat.add_zero, List.length_singleton]
      rw [ih _ hc]
/-- Whether a text is a piece of a line. -/
def hasP (s t : ByteArray) : Bool := (pcs s.data.toList).any fun y => y == t.data.toList
theorem split_any (s t : ByteArray) : ((Lib.splitB ⟨#[32]⟩ 0 (Lib.countB s ⟨#[32]⟩) s).any fun y => t.toList == y.toList) = hasP s t := by
  have h := Lib.splitB_data ⟨#[32]⟩ 0 (Lib.countB s ⟨#[32]⟩) s
  have hc : Lib.countB s ⟨#[32]⟩ = s.data.toList.count 32 := Lib.count_one 32 s.data.toList
  rw [show (⟨#[32]⟩ : ByteArray).data.toList = [32] from rfl, split_pcs _ _ (by rw [hc]; exact Nat.le_refl _)] at h
  unfold hasP
  rw [← h, List.any_map]
  congr 1
  funext y
  rw [Bool.eq_iff_iff, text_iff]
  simp only [Function.comp, beq_iff_eq]
  constructor
  · rintro rfl; rfl
  · intro e; exact (ByteArray.ext (Array.toList_inj.mp e)).symm
theorem index_l0 (xs : List ByteArray) (t : ByteArray) (hm : xs.length ≤ 4611686018427) : ∀ (k i : Nat), xs.length - i < k → i ≤ xs.length → ∃ r : Int, slices_Index_string_string.l0 k xs t (xs.length : Int) (i : Int) = some r ∧ decide (r ≥ 0) = (xs.drop i).any fun y => t.toList == y.toList := by
  intro k
  induction k with
  | zero => intro i h; omega
  | succ k ih =>
    intro i h hi
    unfold slices_Index_string_string.l0
    by_cases hlt : i < xs.length
    · rw [if_pos (by omega), if_pos (by omega), if_pos (by omega), rdOf_at _ _ hlt, w64_in _ (by omega), List.drop_eq_getElem_cons hlt, List.any_cons]
      by_cases he : t.toList = xs[i].toList
      · rw [if_pos he, (by simpa using he : (t.toList == xs[i].toList) = true), Bool.true_or]
        exact ⟨_, rfl, by simp⟩
      · rw [if_neg he, (by simpa using he : (t.toList == xs[i].toList) = false), Bool.false_or]
        exact ih (i + 1) (by omega) (by omega)
    · rw [if_neg (by omega), List.drop_of_length_le (by omega)]
      exact ⟨-1, rfl, by simp⟩
theorem contains_f (xs : List ByteArray) (t : ByteArray) (hm : xs.length ≤ 4611686018427) : slices_Contains_string_string.f (xs.length + 1) xs t = some (xs.any fun y => t.toList == y.toList) := by
  obtain ⟨r, h1, h2⟩ := index_l0 xs t hm (xs.length + 1) 0 (by omega) (by omega)
  unfold slices_Contains_string_string.f slices_Index_string_string.f
  have h1' : slices_Index_string_string.l0 (xs.length + 1) xs t (xs.length : Int) 0 = some r := h1
  rw [h1']
  simp only [Option.bind_some]
  rw [h2]
  rfl
end Go.Proofs.YtfejjfbhlmjkeaaDoor.M
end
