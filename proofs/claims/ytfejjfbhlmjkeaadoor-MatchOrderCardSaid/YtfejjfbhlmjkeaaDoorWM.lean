/- The words of a text: what is known of them, with no program in sight. -/
import Derived.Test.YtfejjfbhlmjkeaaDoorW3
import Derived.Test.YtfejjfbhlmjkeaaDoorWL
set_option linter.unusedVariables false
set_option linter.unusedSimpArgs false
namespace Go.Proofs.YtfejjfbhlmjkeaaDoor.W
open Go.RowKit Go.Lib Go.Proofs.YtfejjfbhlmjkeaaDoor.B Go.Proofs.YtfejjfbhlmjkeaaDoor.WL

/-- A word, out of where it stands. -/
def word (s : ByteArray) (x : Nat × Nat) : ByteArray := s.extract x.1 x.2
/-- The words of a text. -/
def words (s : ByteArray) : List ByteArray := (spansFrom s 0 none).map (word s)
/-- The words that touch neither end. -/
def inner (s : ByteArray) : List ByteArray := ((spansFrom s 0 none).filter fun x => decide (0 < x.1) && decide (x.2 < s.size)).map (word s)
/-- Letters, as numbers. -/
def letterN (c : Nat) : Bool := letter (c : Int)
theorem letterN_bad : letterN 65533 = false := by decide
theorem letterN_blank : letterN 32 = false := by decide
theorem size_list (s : ByteArray) : s.data.toList.length = s.size := Array.length_toList
theorem word_str (s : ByteArray) (f t : Nat) : word s (f, t) = str ((s.data.toList.drop f).take (t - f)) := by
  unfold word str
  apply ByteArray.ext
  rw [ByteArray.data_extract]
  apply Array.ext'
  simp [List.extract_eq_take_drop]
theorem spans_wl (s : ByteArray) : ∀ (n pos : Nat) (fr : Option Nat), s.size - pos ≤ n → pos ≤ s.size → (∀ f, fr = some f → f ≤ pos) → (spansFrom s pos fr).map (word s) = (wl letterN (s.data.toList.drop pos) (fr.map fun f => (s.data.toList.drop f).take (pos - f))).map str := by
  have hsz := size_list s
  have hend : ∀ (pos : Nat) (fr : Option Nat), pos = s.size → (spansFrom s pos fr).map (word s) = (wl letterN (s.data.toList.drop pos) (fr.map fun f => (s.data.toList.drop f).take (pos - f))).map str := by
    intro pos fr hp
    rw [spansFrom_end (by omega), List.drop_of_length_le (by omega), wl_nil]
    cases fr with
    | none => rfl
    | some f => simp [word_str, hp]
  intro n
  induction n with
  | zero => exact fun pos fr h1 h2 h3 => hend pos fr (by omega)
  | succ n ih =>
    intro pos fr h1 h2 h3
    by_cases hp : pos < s.size
    · have hd := decodeL_drop s pos
      have hne : s.data.toList.drop pos ≠ [] := fun e => by have h := congrArg List.length e; rw [List.length_drop, size_list, List.length_nil] at h; omega
      have hw := decodeL_le _ hne
      have hwp := decodeL_width (s.data.toList.drop pos)
      rw [List.length_drop, hsz] at hw
      rw [hd] at hw hwp
      cases hl : letter ((Utf8.decode s pos).1 : Int) with
      | true =>
        rw [spansFrom_is hp hl, wl_is letterN hne (by rw [hd]; exact hl), hd, List.drop_drop, ih _ _ (by omega) (by omega) (fun f e => by
          cases e
          cases fr with
          | none => simp
          | some f => have := h3 f rfl; simp; omega)]
        cases fr with
        | none => simp
        | some f =>
          have hf := h3 f rfl
          simp only [Option.map_some, Option.getD_some]
          have e1 : pos + (Utf8.decode s pos).2 - f = (pos - f) + (Utf8.decode s pos).2 := by omega
          have e2 : s.data.toList.drop pos = (s.data.toList.drop f).drop (pos - f) := by rw [List.drop_drop]; congr 1; omega
          rw [e1, List.take_add, e2]
      | false =>
        rw [wl_not letterN hne (by rw [hd]; exact hl), hd, List.drop_drop]
        cases fr with
        | none =>
          rw [spansFrom_none hp hl, ih _ _ (by omega) (by omega) (fun f e => by cases e)]
          rfl
        | some f =>
          rw [spansFrom_some hp hl, List.map_cons, ih _ _ (by omega) (by omega) (fun f e => by cases e)]
          simp [word_str]
    · exact hend pos fr (by omega)
theorem words_wl (s : ByteArray) : words s = (wl letterN s.data.toList none).map str := by
  have := spans_wl s s.size 0 none (by omega) (by omega) (fun f e => by cases e)
  simpa [words] using this
theorem spans_le (s : ByteArray) : ∀ (n pos : Nat) (fr : Option Nat), s.size - pos ≤ n → pos ≤ s.size → (∀ f, fr = some f → f ≤ pos) → ∀ x ∈ spansFrom s pos fr, x.1 ≤ x.2 ∧ x.2 ≤ s.size := by
  have hend : ∀ (pos : Nat) (fr : Option Nat), pos = s.size → (∀ f, fr = some f → f ≤ pos) → ∀ x ∈ spansFrom s pos fr, x.1 ≤ x.2 ∧ x.2 ≤ s.size := by
    intro pos fr hp h3 x hx
    rw [spansFrom_end (by omega)] at hx
    cases fr with
    | none => cases hx
    | some f => have := h3 f rfl; simp at hx; subst hx; simp; omega
  intro n
  induction n with
  | zero => exact fun pos fr h1 h2 h3 => hend pos fr (by omega) h3
  | succ n ih =>
    intro pos fr h1 h2 h3 x hx
    by_cases hp : pos < s.size
    · have hd := decodeL_drop s pos
      have hne : s.data.toList.drop pos ≠ [] := fun e => by have h := congrArg List.length e; rw [List.length_drop, size_list, List.length_nil] at h; omega
      have hw := decodeL_le _ hne
      have hwp := decodeL_width (s.data.toList.drop pos)
      have hsz := size_list s
      rw [List.length_drop, hsz] at hw
      rw [hd] at hw hwp
      cases hl : letter ((Utf8.decode s pos).1 : Int) with
      | true =>
        rw [spansFrom_is hp hl] at hx
        exact ih _ _ (by omega) (by omega) (fun f e => by
          cases e
          cases fr with
          | none => simp
          | some f => have := h3 f rfl; simp; omega) x hx
      | false =>
        cases fr with
        | none => rw [spansFrom_none hp hl] at hx; exact ih _ _ (by omega) (by omega) (fun f e => by cases e) x hx
        | some f =>
          rw [spansFrom_some hp hl] at hx
          rcases List.mem_cons.1 hx with rfl | hx
          · have := h3 f rfl; simp; omega
          · exact ih _ _ (by omega) (by omega) (fun f e => by cases e) x hx
    · exact hend pos fr (by omega) h3 x hx
/-- What has one word, itself, is one. -/
theorem isWord_of (s : ByteArray) (h : words s = [s]) : isWord s = true := by
  unfold words at h
  cases hsp : spansFrom s 0 none with
  | nil => rw [hsp] at h; cases h
  | cons x t =>
    rw [hsp] at h
    simp only [List.map_cons, List.cons.injEq] at h
    have hx := spans_le s s.size 0 none (by omega) (by omega) (fun f e => by cases e) x (by rw [hsp]; exact List.mem_cons_self ..)
    have hz := congrArg ByteArray.size h.1
    unfold word at hz
    rw [ByteArray.size_extract] at hz
    have hpos : 0 < s.size := by
      rcases Nat.eq_zero_or_pos s.size with h0 | h0
      · rw [spansFrom_end (by omega)] at hsp; cases hsp
      · exact h0
    unfold isWord
    rw [hsp]
    have e1 : x.1 = 0 := by omega
    have e2 : x.2 = s.size := by omega
    simp [e1, e2]
/-- Each word is one. -/
theorem words_word (s w : ByteArray) (h : w ∈ words s) : words w = [w] := by
  rw [words_wl] at h
  obtain ⟨l, hl, rfl⟩ := List.mem_map.1 h
  have hs := wl_solid letterN letterN_bad _ _ none (Nat.le_refl _) (fun c e => by cases e) l hl
  rw [words_wl, data_str, hs.alone]
  rfl
/-- Words parted by a blank are the words of both. -/
theorem words_blank (a b : ByteArray) : words (str (a.data.toList ++ 32 :: b.data.toList)) = words a ++ words b := by
  rw [words_wl, words_wl, words_wl, data_str, wl_blank letterN letterN_blank _ _ _ _ (Nat.le_refl _), List.map_append]
set_option maxRecDepth 100000 in
/-- A rune is put to bytes that are read to it. -/
theorem decode_encode (c : Nat) (hc : c < 55296 ∨ (57344 ≤ c ∧ c ≤ 1114111)) : Utf8.decode (Utf8.encode (c : Int)) 0 = (c, (Utf8.encode (c : Int)).size) := by
  have hv : Utf8.valid (c : Int) = true := by simp [Utf8.valid]; omega
  unfold Utf8.encode
  simp only [hv, if_true, Int.toNat_natCast]
  rw [decode_at]
  have hu : ∀ k, k < 256 → (UInt8.ofNat k).toNat = k := fun k h => by simp; omega
  split
  · show (decodeN 1 (UInt8.ofNat c).toNat 0 0 0) = (c, 1)
    rw [hu _ (by omega), decodeN_ascii _ _ _ _ _ (by omega)]
  · split
    · show decodeN 2 (UInt8.ofNat _).toNat (UInt8.ofNat _).toNat 0 0 = (c, 2)
      rw [hu _ (by omega), hu _ (by omega)]
      have e : (192 + c / 64) % 32 * 64 + (128 + c % 64) % 64 = c := by omega
      unfold decodeN
      rw [if_neg (by omega), if_pos ⟨by omega, by omega, by omega⟩, e, if_pos (by omega)]
    · split
      · show decodeN 3 (UInt8.ofNat _).toNat (UInt8.ofNat _).toNat (UInt8.ofNat _).toNat 0 = (c, 3)
        rw [hu _ (by omega), hu _ (by omega), hu _ (by omega)]
        have e : (224 + c / 4096) % 16 * 4096 + (128 + c / 64 % 64) % 64 * 64 + (128 + c % 64) % 64 = c := by omega
        unfold decodeN
        rw [if_neg (by omega), if_neg (by omega), if_pos ⟨by omega, ⟨by omega, by omega⟩, by omega, by omega⟩, e, if_pos (by omega)]
      · show decodeN 4 (UInt8.ofNat _).toNat (UInt8.ofNat _).toNat (UInt8.ofNat _).toNat (UInt8.ofNat _).toNat = (c, 4)
        rw [hu _ (by omega), hu _ (by omega), hu _ (by omega), hu _ (by omega)]
        have e : (240 + c / 262144) % 8 * 262144 + (128 + c / 4096 % 64) % 64 * 4096 + (128 + c / 64 % 64) % 64 * 64 + (128 + c % 64) % 64 = c := by omega
        unfold decodeN
        rw [if_neg (by omega), if_neg (by omega), if_neg (by omega), if_pos ⟨by omega, ⟨by omega, by omega⟩, ⟨by omega, by omega⟩, by omega, by omega⟩, e, if_pos (by omega)]
theorem encode_size (c : Nat) : 0 < (Utf8.encode (c : Int)).size ∧ (Utf8.encode (c : Int)).size ≤ 4 := by
  unfold Utf8.encode
  simp only
  repeat' split
  all_goals exact ⟨Nat.le_of_ble_eq_true rfl, Nat.le_of_ble_eq_true rfl⟩
theorem isWord_one (s : ByteArray) (c : Nat) (hz : 0 < s.size) (hd : Utf8.decode s 0 = (c, s.size)) : isWord s = letter (c : Int) := by
  unfold isWord
  cases hl : letter (c : Int) with
  | true =>
    rw [spansFrom_is hz (by rw [hd]; exact hl), hd, Nat.zero_add, spansFrom_end (by omega)]
    simp
  | false =>
    rw [spansFrom_none hz (by rw [hd]; exact hl), hd, Nat.zero_add, spansFrom_end (by omega)]
/-- A rune alone is a word just if it is a letter. -/
theorem isWord_rune (c : Nat) (hc : c < 55296 ∨ (57344 ≤ c ∧ c ≤ 1114111)) : isWord (Utf8.encode (c : Int)) = letter (c : Int) := isWord_one _ c (encode_size c).1 (decode_encode c hc)
/-- The same, reckoned. -/
def spansC (s : ByteArray) : Nat → Nat → Option Nat → List (Nat × Nat)
  | 0, _, fr => match fr with | some f => [(f, s.size)] | none => []
  | n + 1, pos, fr =>
    if Nat.blt pos s.size = true then
      if letter ((Utf8.decode s pos).1 : Int) = true then spansC s n (pos + (Utf8.decode s pos).2) (some (fr.getD pos))
      else match fr with
        | some f => (f, pos) :: spansC s n (pos + (Utf8.decode s pos).2) none
        | none => spansC s n (pos + (Utf8.decode s pos).2) none
    else match fr with | some f => [(f, s.size)] | none => []
theorem spansC_eq (s : ByteArray) : ∀ (n pos : Nat) (fr : Option Nat), s.size - pos ≤ n → spansC s n pos fr = spansFrom s pos fr := by
  intro n
  induction n with
  | zero => intro pos fr h; rw [spansFrom_end (by omega)]; rfl
  | succ n ih =>
    intro pos fr h
    unfold spansC
    by_cases hp : pos < s.size
    · have := decode_width_pos s pos hp
      rw [if_pos (by simpa [Nat.blt_eq] using hp)]
      cases hl : letter ((Utf8.decode s pos).1 : Int) with
      | true => rw [if_pos rfl, spansFrom_is hp hl, ih _ _ (by omega)]
      | false =>
        rw [if_neg (by simp)]
        cases fr with
        | none => simp only; rw [spansFrom_none hp hl, ih _ _ (by omega)]
        | some f => simp only; rw [spansFrom_some hp hl, ih _ _ (by omega)]
    · rw [if_neg (by simpa [Nat.blt_eq] using hp), spansFrom_end hp]
      cases fr <;> rfl
end Go.Proofs.YtfejjfbhlmjkeaaDoor.W
