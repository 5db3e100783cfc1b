/- What the reference reckons of words: where they begin and end, one behind the other; plain laws. -/
import Derived.Test.YtfejjfbhlmjkeaaDoorWG
import Derived.Lib.RuneCountTail
set_option linter.unusedVariables false
set_option linter.unusedSimpArgs false
namespace Go.Proofs.YtfejjfbhlmjkeaaDoor.W
open Go.RowKit Go.Lib Go.Proofs.YtfejjfbhlmjkeaaDoor.B Go.Proofs.YtfejjfbhlmjkeaaDoor.WL

/-- Where words begin, and end, from a place on; op: a word is open. -/
def pl (s : ByteArray) (pos : Nat) (op : Bool) : List Nat :=
  if h : pos < s.size then
    if letter ((Utf8.decode s pos).1 : Int) = op then pl s (pos + (Utf8.decode s pos).2) op
    else pos :: pl s (pos + (Utf8.decode s pos).2) (!op)
  else if op then [s.size] else []
termination_by s.size - pos
decreasing_by
  all_goals (have := Lib.decode_width_pos s pos h; omega)
theorem pl_end {s : ByteArray} {pos : Nat} (h : ¬ pos < s.size) (op : Bool) : pl s pos op = if op then [s.size] else [] := by rw [pl.eq_def, dif_neg h]
theorem pl_same {s : ByteArray} {pos : Nat} (h : pos < s.size) {op : Bool} (hl : letter ((Utf8.decode s pos).1 : Int) = op) : pl s pos op = pl s (pos + (Utf8.decode s pos).2) op := by rw [pl.eq_def, dif_pos h, if_pos hl]
theorem pl_turn {s : ByteArray} {pos : Nat} (h : pos < s.size) {op : Bool} (hl : letter ((Utf8.decode s pos).1 : Int) = !op) : pl s pos op = pos :: pl s (pos + (Utf8.decode s pos).2) (!op) := by
  rw [pl.eq_def, dif_pos h, if_neg (by rw [hl]; cases op <;> simp)]
/-- Pairs, one behind the other. -/
def flat (l : List (Nat × Nat)) : List Nat := l.flatMap fun x => [x.1, x.2]
theorem pl_spans (s : ByteArray) : ∀ (n pos : Nat), s.size - pos ≤ n → flat (spansFrom s pos none) = pl s pos false ∧ ∀ f, flat (spansFrom s pos (some f)) = f :: pl s pos true := by
  intro n
  induction n with
  | zero => intro pos h; rw [spansFrom_end (by omega), pl_end (by omega)]; exact ⟨rfl, fun f => by rw [spansFrom_end (by omega), pl_end (by omega)]; rfl⟩
  | succ n ih =>
    intro pos h
    by_cases hp : pos < s.size
    · have hw := decode_width_pos s pos hp
      have h1 := ih (pos + (Utf8.decode s pos).2) (by omega)
      cases hl : letter ((Utf8.decode s pos).1 : Int) with
      | true =>
        refine ⟨?_, fun f => ?_⟩
        · rw [spansFrom_is hp hl, pl_turn hp (by rw [hl]; rfl), h1.2]; rfl
        · rw [spansFrom_is hp hl, pl_same hp hl, h1.2]; rfl
      | false =>
        refine ⟨?_, fun f => ?_⟩
        · rw [spansFrom_none hp hl, pl_same hp hl, h1.1]
        · rw [spansFrom_some hp hl, pl_turn hp (by rw [hl]; rfl)]
          show f :: pos :: flat _ = _
          rw [h1.1]; rfl
    · rw [spansFrom_end hp, pl_end hp]
      exact ⟨rfl, fun f => by rw [spansFrom_end hp, pl_end hp]; rfl⟩
theorem pl_all (s : ByteArray) : pl s 0 false = flat (spansFrom s 0 none) := ((pl_spans s s.size 0 (by omega)).1).symm
theorem flat_length (l : List (Nat × Nat)) : (flat l).length = 2 * l.length := by
  induction l with
  | nil => rfl
  | cons x t ih => show (flat t).length + 1 + 1 = _; rw [ih, List.length_cons]; omega
theorem flat_at (l : List (Nat × Nat)) (i : Nat) (h : i < l.length) : (flat l)[2 * i]? = some l[i].1 ∧ (flat l)[2 * i + 1]? = some l[i].2 := by
  induction l generalizing i with
  | nil => cases h
  | cons x t ih =>
    cases i with
    | zero => exact ⟨rfl, rfl⟩
    | succ i =>
      have h1 := ih i (by simpa using h)
      have e : ∀ k, (flat (x :: t))[k + 2]? = (flat t)[k]? := fun k => rfl
      have e1 : 2 * (i + 1) = 2 * i + 2 := by omega
      have e2 : 2 * (i + 1) + 1 = (2 * i + 1) + 2 := by omega
      rw [e1, e, show 2 * i + 2 + 1 = (2 * i + 1) + 2 by omega, e]
      exact h1
/-- Behind a word that ends with the text there is none. -/
theorem spans_last (s : ByteArray) : ∀ (n pos : Nat) (fr : Option Nat), s.size - pos ≤ n → ∀ x t, spansFrom s pos fr = x :: t → x.2 = s.size → t = [] := by
  have hend : ∀ (pos : Nat) (fr : Option Nat), ¬ pos < s.size → ∀ x t, spansFrom s pos fr = x :: t → t = [] := by
    intro pos fr hp x t he
    rw [spansFrom_end hp] at he
    cases fr with
    | none => cases he
    | some f => simp at he; exact he.2
  intro n
  induction n with
  | zero => exact fun pos fr h x t he _ => hend pos fr (by omega) x t he
  | succ n ih =>
    intro pos fr h x t he hx
    by_cases hp : pos < s.size
    · have hw := decode_width_pos s pos hp
      cases hl : letter ((Utf8.decode s pos).1 : Int) with
      | true => rw [spansFrom_is hp hl] at he; exact ih _ _ (by omega) x t he hx
      | false =>
        cases fr with
        | none => rw [spansFrom_none hp hl] at he; exact ih _ _ (by omega) x t he hx
        | some f =>
          rw [spansFrom_some hp hl] at he
          simp only [List.cons.injEq] at he
          obtain ⟨rfl, _⟩ := he
          simp only at hx
          omega
    · exact hend pos fr hp x t he
/-- What is one word has itself alone. -/
theorem words_of_is (s : ByteArray) (h : isWord s = true) : words s = [s] := by
  unfold isWord at h
  cases hsp : spansFrom s 0 none with
  | nil => rw [hsp] at h; cases h
  | cons x t =>
    rw [hsp] at h
    simp only [Bool.and_eq_true, beq_iff_eq] at h
    have e1 : x.1 = 0 := by omega
    have e2 : x.2 = s.size := by omega
    obtain rfl := spans_last s s.size 0 none (by omega) x t hsp e2
    unfold words
    rw [hsp]
    show [word s x] = [s]
    unfold word
    rw [e1, e2]
    congr 1
    apply ByteArray.ext
    rw [ByteArray.data_extract]
    exact Array.extract_size
/-- What the reference tells of a text that is one word. -/
def oneB (l : List ByteArray) (s : ByteArray) : Bool := match l with
  | [x] => x.toList == s.toList
  | _ => false
theorem oneB_iff (l : List ByteArray) (s : ByteArray) : oneB l s = true ↔ l = [s] := by
  unfold oneB
  split
  · rw [text_iff]
    constructor
    · rintro rfl; rfl
    · intro h; simpa using h
  · rename_i h
    constructor
    · intro h1; cases h1
    · rintro rfl; exact absurd rfl (h s)
theorem is_one (s : ByteArray) : isWord s = oneB (words s) s := by
  rw [Bool.eq_iff_iff, oneB_iff]
  exact ⟨words_of_is s, isWord_of s⟩
theorem inner_eq (s : ByteArray) : inner s = ((spansFrom s 0 none).filter fun x => decide (x.1 ≠ 0) && decide (x.2 ≠ s.size)).map (word s) := by
  unfold inner
  congr 1
  apply List.filter_congr
  intro x hx
  have := spans_le s s.size 0 none (by omega) (by omega) (fun f e => by cases e) x hx
  rw [Bool.eq_iff_iff]
  simp
  omega
theorem inner_count (s : ByteArray) : (inner s).length ≤ (spansFrom s 0 none).length := by
  unfold inner
  rw [List.length_map]
  exact List.length_filter_le _ _
end Go.Proofs.YtfejjfbhlmjkeaaDoor.W
