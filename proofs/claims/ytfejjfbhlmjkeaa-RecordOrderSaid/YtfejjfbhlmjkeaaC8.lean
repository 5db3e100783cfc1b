/- Names, as rows of bytes: plain. -/
import Derived.Test.YtfejjfbhlmjkeaaC7
import Derived.Laws.RangeString
set_option linter.unusedVariables false
set_option linter.unusedSimpArgs false
namespace Go.Proofs.Ytfejjfbhlmjkeaa.C
open Go.RowKit Go.Proofs.Ytfejjfbhlmjkeaa.CQ Go.Proofs.Ytfejjfbhlmjkeaa.W

/-- A letter of a name. -/
def let7 (b : UInt8) : Bool := decide ((97 ≤ b.toNat ∧ b.toNat ≤ 122) ∨ (65 ≤ b.toNat ∧ b.toNat ≤ 90) ∨ (48 ≤ b.toNat ∧ b.toNat ≤ 57) ∨ b.toNat = 95)
def headOk : List UInt8 → Bool
  | [] => true
  | b :: _ => !(decide (48 ≤ b.toNat) && decide (b.toNat ≤ 57))
/-- Whether a row of bytes is a name. -/
def nl (l : List UInt8) : Bool := decide (0 < l.length) && decide (l.length ≤ 20) && l.all let7 && headOk l
theorem letter7 (b : UInt8) (h : b.toNat < 128) : letter (b.toNat : Int) = let7 b := by
  unfold letter let7
  rw [Bool.eq_iff_iff, decide_eq_true_iff, decide_eq_true_iff]
  omega
section
variable {s : ByteArray} (ha : ∀ i (hi : i < s.size), s[i].toNat < 128)
include ha
theorem dec_at {pos : Nat} (h : pos < s.size) : Utf8.decode s pos = (s[pos].toNat, 1) := decode_ascii s pos h (ha pos h)
theorem run_all : ∀ (n pos f : Nat), s.size - pos ≤ n → (∀ i (hi : i < s.size), pos ≤ i → let7 s[i] = true) → spansFrom s pos (some f) = [(f, s.size)] := by
  intro n
  induction n with
  | zero => intro pos f hn h; rw [spansFrom_end (by omega)]
  | succ n ih =>
    intro pos f hn h
    by_cases hp : pos < s.size
    · rw [spansFrom_is hp (by rw [dec_at ha hp, letter7 _ (ha pos hp)]; exact h pos hp (Nat.le_refl _)), dec_at ha hp]
      exact ih (pos + 1) f (by omega) (fun i hi hpi => h i hi (by omega))
    · rw [spansFrom_end hp]
theorem run_stop : ∀ (n pos f p : Nat), s.size - pos ≤ n → pos ≤ p → (hp : p < s.size) → let7 s[p] = false → ∃ q r, q < s.size ∧ spansFrom s pos (some f) = (f, q) :: r := by
  intro n
  induction n with
  | zero => intro pos f p hn h1 h2 _; omega
  | succ n ih =>
    intro pos f p hn h1 h2 h3
    have hp : pos < s.size := by omega
    cases hl : let7 s[pos] with
    | true =>
      rw [spansFrom_is hp (by rw [dec_at ha hp, letter7 _ (ha pos hp)]; exact hl), dec_at ha hp]
      have hne : pos ≠ p := fun e => by subst e; rw [hl] at h3; cases h3
      exact ih (pos + 1) f p (by omega) (by omega) h2 h3
    | false =>
      rw [spansFrom_some hp (by rw [dec_at ha hp, letter7 _ (ha pos hp)]; exact hl)]
      exact ⟨pos, _, hp, rfl⟩
theorem run_late : ∀ (n pos : Nat), s.size - pos ≤ n → ∀ x r, spansFrom s pos none = x :: r → pos ≤ x.1 := by
  intro n
  induction n with
  | zero => intro pos hn x r h; rw [spansFrom_end (by omega)] at h; cases h
  | succ n ih =>
    intro pos hn x r h
    by_cases hp : pos < s.size
    · cases hl : let7 s[pos] with
      | true =>
        rw [spansFrom_is hp (by rw [dec_at ha hp, letter7 _ (ha pos hp)]; exact hl), dec_at ha hp] at h
        by_cases hall : ∀ i (hi : i < s.size), pos + 1 ≤ i → let7 s[i] = true
        · rw [run_all ha n (pos + 1) _ (by omega) hall] at h
          cases h
          exact Nat.le_refl _
        · have : ∃ p, ∃ hp : p < s.size, pos + 1 ≤ p ∧ let7 s[p] = false := by
            refine Classical.byContradiction fun hn => hall fun i hi hpi => ?_
            cases hli : let7 s[i] with
            | true => rfl
            | false => exact absurd ⟨i, hi, hpi, hli⟩ hn
          obtain ⟨p, hp2, hp1, hp3⟩ := this
          obtain ⟨q, r', _, e⟩ := run_stop ha n (pos + 1) (Option.getD none pos) p (by omega) hp1 hp2 hp3
          rw [e] at h
          cases h
          exact Nat.le_refl _
      | false =>
        rw [spansFrom_none hp (by rw [dec_at ha hp, letter7 _ (ha pos hp)]; exact hl), dec_at ha hp] at h
        have := ih (pos + 1) (by omega) x r h
        omega
    · rw [spansFrom_end hp] at h; cases h
theorem isWord_ascii : W.isWord s = (decide (0 < s.size) && s.data.toList.all let7) := by
  have hall : s.data.toList.all let7 = true ↔ ∀ i (hi : i < s.size), let7 s[i] = true := by
    rw [List.all_eq_true]
    constructor
    · intro h i hi
      exact h _ (by rw [Array.mem_toList_iff]; exact Array.getElem_mem hi)
    · intro h b hb
      rw [Array.mem_toList_iff] at hb
      obtain ⟨i, hi, rfl⟩ := Array.mem_iff_getElem.1 hb
      exact h i hi
  unfold W.isWord
  by_cases h0 : 0 < s.size
  · rw [decide_eq_true h0, Bool.true_and]
    cases hl : let7 s[0] with
    | true =>
      have e0 : spansFrom s 0 none = spansFrom s 1 (some 0) := by rw [spansFrom_is h0 (by rw [dec_at ha h0, letter7 _ (ha 0 h0)]; exact hl), dec_at ha h0]; rfl
      rw [e0]
      by_cases h : ∀ i (hi : i < s.size), let7 s[i] = true
      · rw [run_all ha s.size 1 _ (by omega) (fun i hi _ => h i hi), hall.2 h]
        simp
      · have hf : s.data.toList.all let7 = false := by
          cases hx : s.data.toList.all let7 with
          | true => exact absurd (hall.1 hx) h
          | false => rfl
        have : ∃ p, ∃ hp : p < s.size, 1 ≤ p ∧ let7 s[p] = false := by
          refine Classical.byContradiction fun hn => h fun i hi => ?_
          cases hli : let7 s[i] with
          | true => rfl
          | false =>
            by_cases hi0 : i = 0
            · subst hi0; rw [hl] at hli; cases hli
            · exact absurd ⟨i, hi, by omega, hli⟩ hn
        obtain ⟨p, hp2, hp1, hp3⟩ := this
        obtain ⟨q, r', hq, e⟩ := run_stop ha s.size 1 0 p (by omega) hp1 hp2 hp3
        rw [hf, e]
        simp
        omega
    | false =>
      have hf : s.data.toList.all let7 = false := by
        cases hx : s.data.toList.all let7 with
        | true => have := hall.1 hx 0 h0; rw [hl] at this; cases this
        | false => rfl
      rw [hf, spansFrom_none h0 (by rw [dec_at ha h0, letter7 _ (ha 0 h0)]; exact hl), dec_at ha h0]
      cases hsp : spansFrom s (0 + 1) none with
      | nil => rfl
      | cons x r =>
        have := run_late ha s.size (0 + 1) (by omega) x r hsp
        have hx : ((x.1 : Int) == 0) = false := by rw [beq_eq_false_iff_ne]; omega
        simp only
        rw [hx, Bool.false_and]
  · rw [decide_eq_false h0, Bool.false_and, spansFrom_end h0]
end
theorem bytesOk_iff (s : ByteArray) : ∀ n, n ≤ s.size → (bytesOk s n = true ↔ ∀ i (hi : i < s.size), i < n → byteOk s[i] (i == 0) = true)
  | 0, _ => by simp [bytesOk]
  | n + 1, hn => by
    have ih := bytesOk_iff s n (by omega)
    simp only [bytesOk, Bool.and_eq_true]
    rw [ih, byte_at (show n < s.size by omega)]
    constructor
    · rintro ⟨h1, h2⟩ i hi hin
      by_cases e : i = n
      · subst e; exact h2
      · exact h1 i hi (by omega)
    · intro h
      exact ⟨fun i hi hin => h i hi (by omega), h n (by omega) (by omega)⟩
theorem nameB_eq (s : ByteArray) : nameB s = nl s.data.toList := by
  have hl : s.data.toList.length = s.size := Array.length_toList
  have hall : s.data.toList.all let7 = true ↔ ∀ i (hi : i < s.size), let7 s[i] = true := by
    rw [List.all_eq_true]
    constructor
    · intro h i hi
      exact h _ (by rw [Array.mem_toList_iff]; exact Array.getElem_mem hi)
    · intro h b hb
      rw [Array.mem_toList_iff] at hb
      obtain ⟨i, hi, rfl⟩ := Array.mem_iff_getElem.1 hb
      exact h i hi
  have hhead : ∀ (h0 : 0 < s.size), headOk s.data.toList = !(decide (48 ≤ s[0].toNat) && decide (s[0].toNat ≤ 57)) := fun h0 => by
    have e : s.data.toList = s[0] :: s.data.toList.drop 1 := by
      have := List.drop_eq_getElem_cons (l := s.data.toList) (i := 0) (by rw [hl]; exact h0)
      rw [List.drop_zero] at this
      exact this
    rw [e]
    rfl
  rw [Bool.eq_iff_iff]
  unfold nameB nl
  simp only [Bool.and_eq_true, decide_eq_true_eq, hl]
  rw [bytesOk_iff s s.size (Nat.le_refl _)]
  constructor
  · rintro ⟨h1, h2, h3⟩
    have ha : ∀ i (hi : i < s.size), s[i].toNat < 128 := fun i hi => by
      have := h1 i hi hi
      unfold byteOk at this
      simp only [Bool.and_eq_true, decide_eq_true_eq] at this
      exact this.1
    rw [isWord_ascii ha, Bool.and_eq_true, decide_eq_true_eq] at h3
    refine ⟨⟨⟨h3.1, h2⟩, h3.2⟩, ?_⟩
    rw [hhead h3.1]
    have := h1 0 h3.1 h3.1
    unfold byteOk at this
    simp only [Bool.and_eq_true, decide_eq_true_eq, beq_self_eq_true, Bool.true_and] at this
    exact this.2
  · rintro ⟨⟨⟨h0, h2⟩, h3⟩, h4⟩
    have hl7 := hall.1 h3
    have ha : ∀ i (hi : i < s.size), s[i].toNat < 128 := fun i hi => by
      have := hl7 i hi
      unfold let7 at this
      simp only [decide_eq_true_eq] at this
      omega
    rw [hhead h0] at h4
    refine ⟨fun i hi _ => ?_, h2, ?_⟩
    · unfold byteOk
      simp only [Bool.and_eq_true, decide_eq_true_eq]
      refine ⟨ha i hi, ?_⟩
      by_cases e : i = 0
      · subst e; simpa using h4
      · simp [e]
    · rw [isWord_ascii ha, Bool.and_eq_true, decide_eq_true_eq]
      exact ⟨h0, h3⟩
/-- A letter more. -/
theorem nl_more (l : List UInt8) : nl (l ++ [97]) = (decide (l.length < 20) && (nl l || decide (l = []))) := by
  cases l with
  | nil => rfl
  | cons b l =>
    unfold nl
    have e0 : decide (b :: l = []) = false := rfl
    rw [e0]
    have e1 : headOk (b :: l ++ [97]) = headOk (b :: l) := rfl
    have e2 : (b :: l ++ [97]).all let7 = (b :: l).all let7 := by
      rw [List.all_append]
      have : [97].all let7 = true := by decide
      rw [this, Bool.and_true]
    have e3 : (b :: l ++ [97]).length = (b :: l).length + 1 := by rw [List.length_append]; rfl
    rw [e1, e2, e3]
    have h0 : 0 < (b :: l).length := Nat.succ_pos _
    generalize (b :: l).length = n at h0 ⊢
    cases (b :: l).all let7 <;> cases headOk (b :: l)
    · simp
    · simp
    · simp
    · rw [Bool.eq_iff_iff]
      simp only [Bool.and_true, Bool.or_false, Bool.and_eq_true, decide_eq_true_eq]
      omega
theorem nl_last (l : List UInt8) (b : UInt8) (h : let7 b = false) : nl (l ++ [b]) = false := by
  unfold nl
  rw [List.all_append]
  have : [b].all let7 = false := by simp [h]
  rw [this]; simp
theorem nl_nine (l : List UInt8) : nl (57 :: l) = false := by
  unfold nl
  have : headOk (57 :: l) = false := rfl
  rw [this]; simp
end Go.Proofs.Ytfejjfbhlmjkeaa.C
