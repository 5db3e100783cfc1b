/- What is gone over of words, and how many they are: plain laws, and contracts at all the words. -/
import Derived.Test.YtfejjfbhlmjkeaaDoorW10
set_option linter.unusedVariables false
set_option linter.unusedSimpArgs false
namespace Go.Proofs.YtfejjfbhlmjkeaaDoor.W
open Go.RowKit Go.Shelf Go.Proofs.YtfejjfbhlmjkeaaDoorW.PrintWords Go.Proofs.YtfejjfbhlmjkeaaDoorW.PrintLast Go.Proofs.YtfejjfbhlmjkeaaDoor.B Go.Proofs.YtfejjfbhlmjkeaaDoor.It

theorem spans_count (s : ByteArray) : ∀ (n pos : Nat) (fr : Option Nat), s.size - pos ≤ n → (spansFrom s pos fr).length ≤ (s.size - pos) + (match fr with | some _ => 1 | none => 0) := by
  intro n
  induction n with
  | zero =>
    intro pos fr h
    rw [spansFrom_end (by omega)]
    cases fr <;> simp
  | succ n ih =>
    intro pos fr h
    by_cases hp : pos < s.size
    · have hw := Lib.decode_width_pos s pos hp
      cases hl : letter ((Utf8.decode s pos).1 : Int) with
      | true =>
        rw [spansFrom_is hp hl]
        have := ih (pos + (Utf8.decode s pos).2) (some (fr.getD pos)) (by omega)
        simp only at this
        cases fr <;> simp only <;> omega
      | false =>
        have := ih (pos + (Utf8.decode s pos).2) none (by omega)
        simp only at this
        cases fr with
        | none => rw [spansFrom_none hp hl]; simp only; omega
        | some f => rw [spansFrom_some hp hl, List.length_cons]; simp only; omega
    · rw [spansFrom_end hp]
      cases fr <;> simp
theorem words_count (s : ByteArray) : (words s).length ≤ s.size := by
  unfold words
  rw [List.length_map]
  have := spans_count s s.size 0 none (by omega)
  simpa using this
theorem words_cat (a b : ByteArray) : words (a ++ ⟨#[32]⟩ ++ b) = words a ++ words b := by
  rw [← words_blank]
  congr 1
  apply ByteArray.ext
  unfold str
  apply Array.ext'
  simp [ByteArray.data_append]
theorem own_news {w : World} {base : Nat} {e : TypeId} {v : Value} {xs : List Value} (h : B.Own w base e v xs) : ∃ A c, v = .slice A xs.length c ∧ (∀ ad, A = some ad → ∀ j u, xs[j]? = some u → w.cell? (ad.add j) = some u) ∧ (A = none → xs = []) := by
  have h' := h
  rcases h with ⟨rfl, rfl⟩ | ⟨g, cap, cur, fz, rfl, h2⟩
  · exact ⟨none, 0, rfl, (fun ad e => by cases e), fun _ => rfl⟩
  · exact ⟨_, cap, rfl, (fun ad e => by cases e; exact h'.cells rfl), fun e => by cases e⟩
/-- All the words of a text, gone over. -/
theorem goneAll (s : ByteArray) (most : Int) (w : World) (hs : s.size ≤ 1100) (hm : (s.size : Int) ≤ most) : Calls Tryd.prog 16 #[.func (.func 44) #[] #[.pointer (some ⟨w.heap.size, 0, none⟩)], .int .i64 most] (w.alloc (.cells #[.string s] 9)) fun e w' => ∃ v, e = .returned v ∧ Aside0 (B.Own w' w.heap.size 9 v ((words s).map .string)) ∧ Below w.heap.size w w' := by
  have hc := words_count s
  refine (goneW (s := s) (most := most) w (by omega) (by omega)).mono ?_
  rintro e w' ⟨v, rfl, ho, hb⟩
  rw [List.take_of_length_le (by omega)] at ho
  exact ⟨v, rfl, ⟨ho⟩, hb⟩
/-- The words of a word. -/
theorem goneOne (x : ByteArray) (hx : words x = [x]) (hz : x.size ≤ 1100) (w : World) : Calls Tryd.prog 16 #[.func (.func 44) #[] #[.pointer (some ⟨w.heap.size, 0, none⟩)], .int .i64 9] (w.alloc (.cells #[.string x] 9)) fun e w' => ∃ v, e = .returned v ∧ Aside0 (ReadsS w' v [x]) ∧ Below w.heap.size w w' := by
  refine (goneW (s := x) (most := 9) w (by omega) (by rw [hx]; exact Nat.le_of_ble_eq_true rfl)).mono ?_
  rintro e w' ⟨v, rfl, ho, hb⟩
  rw [hx] at ho
  exact ⟨v, rfl, ⟨readsS_own (xs := [x]) ho⟩, hb⟩
theorem sameOne (x : ByteArray) (w : World) (v : Value) (h : ReadsS w v [x]) : Calls Tryd.prog 15 #[v, .slice (some ⟨w.heap.size, 0, none⟩) 1 1] (w.alloc (.cells #[.string x] 9)) fun e w' => e = .returned (.bool true) ∧ Below w.heap.size w w' := by
  refine (same_any (h.below (below_alloc (Below.refl _ _) _)) (readsS_new w 9 [x] (by simp)) (by simp)).mono ?_
  rintro e w' ⟨rfl, hb⟩
  rw [(sameB_iff _ _).2 rfl]
  exact ⟨rfl, below_step (below_alloc (Below.refl _ w) _) hb⟩
theorem sameAll {xs ys : List ByteArray} (w : World) (v0 v1 : Value) (hxy : xs = ys) (h0 : ReadsS w v0 xs) (h1 : ReadsS w v1 ys) (hm : xs.length ≤ 4611686018427) : Calls Tryd.prog 15 #[v0, v1] w fun e w' => e = .returned (.bool true) ∧ Below w.heap.size w w' := by
  have h := same_any h0 h1 hm
  rw [(sameB_iff _ _).2 hxy] at h
  exact h
theorem isTrue (x : ByteArray) (hx : words x = [x]) (hz : x.size ≤ 1100) (w : World) : Calls Tryd.prog 21 #[.string x] w fun e w' => e = .returned (.bool true) ∧ Below w.heap.size w w' := by
  have h := is_any x w (by omega)
  rw [isWord_of x hx] at h
  exact h
theorem word_size (s x : ByteArray) (h : x ∈ words s) : x.size ≤ s.size := by
  unfold words at h
  obtain ⟨y, hy, rfl⟩ := List.mem_map.1 h
  unfold word
  rw [ByteArray.size_extract]
  omega
end Go.Proofs.YtfejjfbhlmjkeaaDoor.W
