import Derived.Lib.SplitLaws
import Derived.Lib.IndexLaws
import Derived.Lib.IndexBytes
import Derived.Test.YtpleiklodomgiaaGreatDoorModelPages27
import Derived.Test.YtpleiklodomgiaaGreatDoorModelPages22
set_option linter.unusedVariables false
set_option linter.unusedSimpArgs false
section
namespace Go.Proofs.YtpleiklodomgiaaGreatDoor.B
end Go.Proofs.YtpleiklodomgiaaGreatDoor.B
namespace Go.Proofs.YtpleiklodomgiaaGreatDoor.PModelIs
end Go.Proofs.YtpleiklodomgiaaGreatDoor.PModelIs
namespace Go.Proofs.YtpleiklodomgiaaGreatDoor.W
end Go.Proofs.YtpleiklodomgiaaGreatDoor.W
namespace Go.Proofs.YtpleiklodomgiaaGreatDoor.M
open Go.RowKit Go.Proofs.YtpleiklodomgiaaGreatDoorW.PrintWords Go.Proofs.YtpleiklodomgiaaGreatDoorW.PrintLast Go.Proofs.YtpleiklodomgiaaGreatDoorW.PrintMore Go.Proofs.YtpleiklodomgiaaGreatDoor.B Go.Proofs.YtpleiklodomgiaaGreatDoor.W Go.Proofs.YtpleiklodomgiaaGreatDoor.PModelIs
def pcs : List UInt8 → List (List UInt8)
 | [] => [[]]
 | c :: t => if c = 32 then [] :: pcs t else match pcs t with
  | [] => [[c]]
  | h :: r => (c :: h) :: r
theorem pcs_ne : ∀ l, pcs l ≠ []
 | [] => by simp [pcs]
 | c :: t => by
  unfold pcs
  split
  ·simp
  ·split <;> simp
theorem pcs_blank : ∀ (a b : List UInt8), pcs (a ++ 32 :: b) = pcs a ++ pcs b
 | [], b => by simp [pcs]
 | c :: a, b => by
  have ih := pcs_blank a b
  rw [List.cons_append, pcs.eq_def (c :: (a ++ 32 :: b)), pcs.eq_def (c :: a)]
  simp only
  by_cases hc : c = 32
  ·rw [if_pos hc, if_pos hc, ih]; rfl
  ·rw [if_neg hc, if_neg hc, ih]
   cases h : pcs a with
   | nil => exact absurd h (pcs_ne a)
   | cons x r => rfl
theorem pcs_none : ∀ l : List UInt8, (∀ x ∈ l, x ≠ 32) → pcs l = [l]
 | [], _ => rfl
 | c :: t, h => by
  rw [pcs.eq_def]
  simp only
  rw [if_neg (h c (List.mem_cons_self ..)), pcs_none t (fun x hx => h x (List.mem_cons_of_mem _ hx))]
theorem pcs_at (l : List UInt8) (i : Nat) (hi : l[i]? = some 32) (hb : ∀ k, k < i → l[k]? ≠ some 32) : pcs l = l.take i :: pcs (l.drop (i + 1)) := by
 obtain ⟨hlt, he⟩ := List.getElem?_eq_some_iff.1 hi
 have e : l = l.take i ++ 32 :: l.drop (i + 1) := by
  rw [← he, ← List.drop_eq_getElem_cons hlt, List.take_append_drop]
 have hn : ∀ x ∈ l.take i, x ≠ 32 := by
  intro x hx hx32
  obtain ⟨k, hk, hkx⟩ := List.mem_iff_getElem.1 hx
  rw [List.length_take] at hk
  refine hb k (by omega) ?_
  rw [List.getElem_take] at hkx
  rw [List.getElem?_eq_getElem (by omega), hkx, hx32]
 rw [show pcs l = pcs (l.take i ++ 32 :: l.drop (i + 1)) from congrArg pcs e, pcs_blank, pcs_none _ hn]
 rfl
theorem no_blank {l : List UInt8} (h : ∀ k : Nat, l[k]? ≠ some 32) : ∀ x ∈ l, x ≠ 32 := by
 intro x hx e
 obtain ⟨k, hk, hkx⟩ := List.mem_iff_getElem.1 hx
 exact h k (by rw [List.getElem?_eq_getElem hk, hkx, e])
theorem split_pcs : ∀ (k : Nat) (l : List UInt8), l.count 32 ≤ k → Lib.splitK [32] 0 k l = pcs l := by
 intro k
 induction k with
 | zero =>
  intro l h
  unfold Lib.splitK
  rw [pcs_none l (fun x hx e => by subst e; have := List.count_pos_iff.2 hx; omega)]
 | succ k ih =>
  intro l h
  unfold Lib.splitK
  rw [Lib.index_one]
  by_cases hm : Lib.indexByte l 32 = -1
  ·rw [if_pos (by rw [hm]; rfl), pcs_none l (no_blank (Lib.indexByte_none hm))]
  ·have hge := Lib.indexByte_ge l 32
   obtain ⟨i, hi⟩ : ∃ i : Nat, Lib.indexByte l 32 = i := ⟨(Lib.indexByte l 32).toNat, by omega⟩
   obtain ⟨h1, h2⟩ := Lib.indexByte_some hi
   rw [if_neg (by rw [hi]; simp), hi, pcs_at l i h1 h2]
   obtain ⟨hlt, he⟩ := List.getElem?_eq_some_iff.1 h1
   have e : l = l.take i ++ 32 :: l.drop (i + 1) := by
    rw [← he, ← List.drop_eq_getElem_cons hlt, List.take_append_drop]
   have hc : (l.drop (i + 1)).count 32 ≤ k := by
    have h3 := congrArg (List.count (32 : UInt8)) e
    rw [List.count_append, List.count_cons_self] at h3
    omega
   simp only [Int.toNat_natCast, Nat.add_zero, List.length_singleton]
   rw [ih _ hc]
def hasP (s t : ByteArray) : Bool := (pcs s.data.toList).any fun y => y == t.data.toList
theorem split_any (s t : ByteArray) : ((Lib.splitB ⟨#[32]⟩ 0 (Lib.countB s ⟨#[32]⟩) s).any fun y => t.toList == y.toList) = hasP s t := by
 have h := Lib.splitB_data ⟨#[32]⟩ 0 (Lib.countB s ⟨#[32]⟩) s
 have hc : Lib.countB s ⟨#[32]⟩ = s.data.toList.count 32 := Lib.count_one 32 s.data.toList
 rw [show (⟨#[32]⟩ : ByteArray).data.toList = [32] from rfl, split_pcs _ _ (by rw [hc]; exact Nat.le_refl _)] at h
 unfold hasP
 rw [← h, List.any_map]
 congr 1
 funext y
 rw [Bool.eq_iff_iff, text_iff]
 simp only [Function.comp, beq_iff_eq]
 constructor
 ·rintro rfl; rfl
 ·intro e; exact (ByteArray.ext (Array.toList_inj.mp e)).symm
theorem index_l0 (xs : List ByteArray) (t : ByteArray) (hm : xs.length ≤ 4611686018427) : ∀ (k i : Nat), xs.length - i < k → i ≤ xs.length → ∃ r : Int, slices_Index_string_string.l0 k xs t (xs.length : Int) (i : Int) = some r ∧ decide (r ≥ 0) = (xs.drop i).any fun y => t.toList == y.toList := by
 intro k
 induction k with
 | zero => intro i h; omega
 | succ k ih =>
  intro i h hi
  unfold slices_Index_string_string.l0
  by_cases hlt : i < xs.length
  ·rw [if_pos (by omega), if_pos (by omega), if_pos (by omega), rdOf_at _ _ hlt, w64_in _ (by omega), List.drop_eq_getElem_cons hlt, List.any_cons]
   by_cases he : t.toList = xs[i].toList
   ·rw [if_pos he, (by simpa using he : (t.toList == xs[i].toList) = true), Bool.true_or]
    exact ⟨_, rfl, by simp⟩
   ·rw [if_neg he, (by simpa using he : (t.toList == xs[i].toList) = false), Bool.false_or]
    exact ih (i + 1) (by omega) (by omega)
  ·rw [if_neg (by omega), List.drop_of_length_le (by omega)]
   exact ⟨-1, rfl, by simp⟩
theorem contains_f (xs : List ByteArray) (t : ByteArray) (hm : xs.length ≤ 4611686018427) : slices_Contains_string_string.f (xs.length + 1) xs t = some (xs.any fun y => t.toList == y.toList) := by
 obtain ⟨r, h1, h2⟩ := index_l0 xs t hm (xs.length + 1) 0 (by omega) (by omega)
 unfold slices_Contains_string_string.f slices_Index_string_string.f
 have h1' : slices_Index_string_string.l0 (xs.length + 1) xs t (xs.length : Int) 0 = some r := h1
 rw [h1']
 simp only [Option.bind_some]
 rw [h2]
 rfl
theorem bt_list (s : ByteArray) (i : Nat) (h : i < s.size) : ∃ b : UInt8, s.data.toList[i]? = some b ∧ bt s (i : Int) = (b.toNat : Int) := by
 have hl : i < s.data.toList.length := by rw [size_list]; exact h
 refine ⟨s.data.toList[i], List.getElem?_eq_getElem hl, ?_⟩
 unfold bt
 rw [dif_pos (by simpa using h)]
 simp [ByteArray.getElem_eq_getElem_data]
theorem ext_list (s : ByteArray) (f t : Nat) : (s.extract f t).data.toList = (s.data.toList.drop f).take (t - f) := by
 have := word_str s f t
 unfold word at this
 rw [this, data_str]
theorem piece_l0 (s t : ByteArray) (hm : s.size ≤ 4611686018427) : ∀ (n i f k : Nat), s.size - i = n → i ≤ s.size → f ≤ i → (∀ j, f ≤ j → j < i → s.data.toList[j]? ≠ some 32) → 2 * n + 4 ≤ k → magpieref09_piece.l0 k s t (f : Int) (i : Int) = some ((pcs (s.data.toList.drop f)).any fun y => y == t.data.toList) := by
 intro n
 have hsz := size_list s
 have key : ∀ i f, f ≤ i → i ≤ s.size → ((s.extract (f : Int).toNat (i : Int).toNat).toList = t.toList ↔ ((s.data.toList.drop f).take (i - f) == t.data.toList) = true) := by
  intro i f hf hi
  rw [beq_iff_eq, Int.toNat_natCast, Int.toNat_natCast, ByteArray.toList_eq, ByteArray.toList_eq, ext_list]
 have hno : ∀ i f, f ≤ i → (∀ j, f ≤ j → j < i → s.data.toList[j]? ≠ some 32) → ∀ j, j < i - f → (s.data.toList.drop f)[j]? ≠ some 32 := by
  intro i f hf hb j hj
  rw [List.getElem?_drop]
  exact hb (f + j) (by omega) (by omega)
 induction n with
 | zero =>
  intro i f k hn hi hf hb hk
  obtain rfl : i = s.size := by omega
  obtain ⟨k, rfl⟩ : ∃ k', k = k' + 3 := ⟨k - 3, by omega⟩
  unfold magpieref09_piece.l0
  rw [if_pos (by omega), if_pos rfl]
  unfold magpieref09_piece.j1
  rw [if_pos rfl, if_pos (by omega), if_pos (by omega), if_pos (by omega)]
  have hp : pcs (s.data.toList.drop f) = [s.data.toList.drop f] := pcs_none _ (no_blank (fun j => by
   by_cases hj : j < s.size - f
   ·exact hno s.size f hf hb j hj
   ·rw [List.getElem?_eq_none (by rw [List.length_drop]; omega)]; simp))
  have he : (s.data.toList.drop f).take (s.size - f) = s.data.toList.drop f := List.take_of_length_le (by rw [List.length_drop]; omega)
  have hk1 := key s.size f hf (Nat.le_refl _)
  rw [he] at hk1
  rw [hp]
  by_cases hx : (s.extract (f : Int).toNat (s.size : Int).toNat).toList = t.toList
  ·rw [if_pos hx]; simp only [List.any_cons, List.any_nil, Bool.or_false, hk1.1 hx]
  ·rw [if_neg hx, w64_in _ (by omega)]
   have hf2 : (s.data.toList.drop f == t.data.toList) = false := by
    cases h : (s.data.toList.drop f == t.data.toList) with
    | true => exact absurd (hk1.2 h) hx
    | false => rfl
   unfold magpieref09_piece.l0
   rw [if_neg (by omega)]
   simp only [List.any_cons, List.any_nil, Bool.or_false, hf2]
 | succ n ih =>
  intro i f k hn hi hf hb hk
  have hlt : i < s.size := by omega
  obtain ⟨k, rfl⟩ : ∃ k', k = k' + 2 := ⟨k - 2, by omega⟩
  obtain ⟨b, hb1, hb2⟩ := bt_list s i hlt
  unfold magpieref09_piece.l0
  rw [if_pos (by omega), if_neg (by omega), if_pos (by omega), if_pos (by omega), hb2]
  unfold magpieref09_piece.j1
  by_cases h32 : b = 32
  ·subst h32
   rw [if_pos (by rfl), if_pos (by omega), if_pos (by omega), if_pos (by omega)]
   have hp := pcs_at (s.data.toList.drop f) (i - f) (by rw [List.getElem?_drop]; have : f + (i - f) = i := by omega
                                                        rw [this]; exact hb1) (hno i f hf hb)
   have hd : (s.data.toList.drop f).drop (i - f + 1) = s.data.toList.drop (i + 1) := by rw [List.drop_drop]; congr 1; omega
   rw [hd] at hp
   rw [hp, List.any_cons]
   have hk1 := key i f hf hi
   by_cases hx : (s.extract (f : Int).toNat (i : Int).toNat).toList = t.toList
   ·rw [if_pos hx, hk1.1 hx, Bool.true_or]
   ·have hf2 : ((s.data.toList.drop f).take (i - f) == t.data.toList) = false := by
     cases h : ((s.data.toList.drop f).take (i - f) == t.data.toList) with
     | true => exact absurd (hk1.2 h) hx
     | false => rfl
    rw [if_neg hx, w64_in _ (by omega), hf2, Bool.false_or]
    exact ih (i + 1) (i + 1) k (by omega) (by omega) (Nat.le_refl _) (fun j h1 h2 => by omega) (by omega)
  ·have hbf : (((b.toNat : Int)) == 32) = false := by
    rw [beq_eq_false_iff_ne]
    intro e
    apply h32
    apply UInt8.toNat_inj.1
    have : b.toNat = 32 := by omega
    rw [this]; rfl
   rw [hbf, if_neg (by simp), w64_in _ (by omega)]
   exact ih (i + 1) f k (by omega) (by omega) (by omega) (fun j h1 h2 => by
    by_cases hj : j = i
    ·rw [hj, hb1]; intro e; exact h32 (by simpa using e)
    ·exact hb j h1 (by omega)) (by omega)
theorem piece_f (s t : ByteArray) (hm : s.size ≤ 4611686018427) : magpieref09_piece.f (2 * s.size + 4) s t = some (hasP s t) := by
 unfold magpieref09_piece.f hasP
 have := piece_l0 s t hm s.size 0 0 (2 * s.size + 4) (by omega) (Nat.zero_le _) (Nat.le_refl _) (fun j h1 h2 => by omega) (by omega)
 simpa using this
end Go.Proofs.YtpleiklodomgiaaGreatDoor.M
end
