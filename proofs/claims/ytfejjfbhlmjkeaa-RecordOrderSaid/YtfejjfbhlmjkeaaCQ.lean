/- Orders of whole comparisons: lexicographic ones, rows; rows in order, each once, are one row. -/
import Derived.Test.YtfejjfbhlmjkeaaPc
import Derived.Test.YtfejjfbhlmjkeaaGt
set_option linter.unusedVariables false
set_option linter.unusedSimpArgs false
namespace Go.Proofs.Ytfejjfbhlmjkeaa.CQ
open Go.RowKit

structure Cmp {α : Type} (c : α → α → Int) : Prop where
  anti : ∀ x y, c y x = - c x y
  tri : ∀ x y, c x y = -1 ∨ c x y = 0 ∨ c x y = 1
  eq0 : ∀ x y, c x y = 0 ↔ x = y
  trans : ∀ x y z, c x y = -1 → c y z = -1 → c x z = -1
theorem Cmp.turned {α : Type} {c : α → α → Int} (h : Cmp c) : Cmp (fun x y => c y x) where
  anti x y := h.anti y x
  tri x y := h.tri y x
  eq0 x y := (h.eq0 y x).trans eq_comm
  trans x y z h1 h2 := h.trans z y x h2 h1
theorem Cmp.lex {α β γ : Type} {c : α → α → Int} {d : β → β → Int} (h : Cmp c) (k : Cmp d) (f : γ → α) (g : γ → β) (inj : ∀ x y, f x = f y → g x = g y → x = y) :
    Cmp (fun x y => if c (f x) (f y) = 0 then d (g x) (g y) else c (f x) (f y)) where
  anti x y := by
    have e := h.anti (f x) (f y)
    have e2 := k.anti (g x) (g y)
    by_cases h0 : c (f x) (f y) = 0
    · rw [if_pos h0, if_pos (by omega), e2]
    · rw [if_neg h0, if_neg (by omega), e]
  tri x y := by
    split
    · exact k.tri _ _
    · exact h.tri _ _
  eq0 x y := by
    constructor
    · intro e
      by_cases h0 : c (f x) (f y) = 0
      · rw [if_pos h0] at e
        exact inj x y ((h.eq0 _ _).1 h0) ((k.eq0 _ _).1 e)
      · rw [if_neg h0] at e; exact absurd e h0
    · rintro rfl
      rw [if_pos ((h.eq0 _ _).2 rfl), (k.eq0 _ _).2 rfl]
  trans x y z := by
    intro h1 h2
    by_cases a0 : c (f x) (f y) = 0
    · rw [if_pos a0] at h1
      rw [(h.eq0 _ _).1 a0]
      by_cases b0 : c (f y) (f z) = 0
      · rw [if_pos b0] at h2 ⊢
        exact k.trans _ _ _ h1 h2
      · rw [if_neg b0] at h2 ⊢
        exact h2
    · rw [if_neg a0] at h1
      by_cases b0 : c (f y) (f z) = 0
      · rw [← (h.eq0 _ _).1 b0, if_neg a0]; exact h1
      · rw [if_neg b0] at h2
        have e := h.trans _ _ _ h1 h2
        rw [if_neg (by omega)]; exact e
theorem less_irrefl : ∀ x : List UInt8, Op.bytesLess x x = false
  | [] => rfl
  | a :: x => by
    simp only [Op.bytesLess]
    rw [less_irrefl x]
    have : ¬ a < a := fun h => by have h' : a.toNat < a.toNat := h; omega
    simp [this]
theorem less_iff : ∀ (x y : List UInt8), Op.bytesLess x y = true ↔ x < y
  | [], [] => by simp [Op.bytesLess]
  | [], _ :: _ => by simp [Op.bytesLess]
  | _ :: _, [] => by simp [Op.bytesLess]
  | a :: x, b :: y => by
    simp only [Op.bytesLess, List.cons_lt_cons_iff, Bool.or_eq_true, decide_eq_true_eq, Bool.and_eq_true, beq_iff_eq, less_iff x y]
theorem less_trans : ∀ (x y z : List UInt8), Op.bytesLess x y = true → Op.bytesLess y z = true → Op.bytesLess x z = true
  | [], [], _, h, _ => by simp [Op.bytesLess] at h
  | _ :: _, [], _, h, _ => by simp [Op.bytesLess] at h
  | _, _ :: _, [], _, h => by simp [Op.bytesLess] at h
  | [], _ :: _, _ :: _, _, _ => rfl
  | a :: x, b :: y, c :: z, h, k => by
    simp only [Op.bytesLess, Bool.or_eq_true, decide_eq_true_eq, Bool.and_eq_true, beq_iff_eq] at h k ⊢
    rcases h with h | ⟨rfl, h⟩
    · rcases k with k | ⟨rfl, k⟩
      · exact Or.inl (Nat.lt_trans (show a.toNat < b.toNat from h) (show b.toNat < c.toNat from k))
      · exact Or.inl h
    · rcases k with k | ⟨rfl, k⟩
      · exact Or.inl k
      · exact Or.inr ⟨rfl, less_trans x y z h k⟩
theorem toList_inj {a b : ByteArray} (h : a.toList = b.toList) : a = b := by
  rw [ByteArray.toList_eq, ByteArray.toList_eq] at h
  exact ByteArray.ext (Array.toList_inj.mp h)
/-- Which of two texts comes first. -/
def cmpS (x y : ByteArray) : Int := if Op.bytesLess x.toList y.toList = true then -1 else if Op.bytesLess y.toList x.toList = true then 1 else 0
def cmpI (x y : Int) : Int := if x < y then -1 else if x > y then 1 else 0
theorem cmpI_c : Cmp cmpI where
  anti x y := by unfold cmpI; split <;> split <;> (try split) <;> (try split) <;> omega
  tri x y := by unfold cmpI; split <;> (try split) <;> omega
  eq0 x y := by unfold cmpI; split <;> (try split) <;> omega
  trans x y z := by unfold cmpI; split <;> split <;> (try split) <;> (try split) <;> (try split) <;> omega
theorem cmpS_m {x y : ByteArray} : cmpS x y = -1 ↔ Op.bytesLess x.toList y.toList = true := by
  unfold cmpS
  split
  · rename_i h; simp [h]
  · rename_i h; simp only [h]; split <;> simp
theorem cmpS_c : Cmp cmpS where
  anti x y := by
    unfold cmpS
    by_cases h : Op.bytesLess x.toList y.toList = true
    · have k : ¬ Op.bytesLess y.toList x.toList = true := fun k => by
        have e := less_trans _ _ _ h k
        rw [less_irrefl] at e; exact Bool.noConfusion e
      rw [if_neg k, if_pos h]; simp [h]
    · rw [if_neg h]
      by_cases k : Op.bytesLess y.toList x.toList = true
      · simp [h, k]
      · simp [h, k]
  tri x y := by unfold cmpS; split <;> (try split) <;> omega
  eq0 x y := by
    constructor
    · intro e
      unfold cmpS at e
      by_cases h : Op.bytesLess x.toList y.toList = true
      · rw [if_pos h] at e; omega
      · rw [if_neg h] at e
        by_cases k : Op.bytesLess y.toList x.toList = true
        · rw [if_pos k] at e; omega
        · have s := Gt.less_swap x.toList y.toList
          have h' : Op.bytesLess x.toList y.toList = false := by simpa using h
          have k' : Op.bytesLess y.toList x.toList = false := by simpa using k
          rw [h', k'] at s
          have s2 : (x.toList == y.toList) = true := by simpa using s
          exact toList_inj (by simpa using s2)
    · rintro rfl
      unfold cmpS
      rw [if_neg (by rw [less_irrefl]; exact Bool.noConfusion), if_neg (by rw [less_irrefl]; exact Bool.noConfusion)]
  trans x y z h k := cmpS_m.2 (less_trans _ _ _ (cmpS_m.1 h) (cmpS_m.1 k))
/-- Which of two rows. -/
def cmpR {α : Type} (c : α → α → Int) : List α → List α → Int
  | [], [] => 0
  | [], _ :: _ => -1
  | _ :: _, [] => 1
  | x :: xs, y :: ys => if c x y = 0 then cmpR c xs ys else c x y
theorem cmpR_anti {α : Type} {c : α → α → Int} (h : Cmp c) : ∀ x y, cmpR c y x = - cmpR c x y
  | [], [] => rfl
  | [], _ :: _ => rfl
  | _ :: _, [] => rfl
  | x :: xs, y :: ys => by
    have e := h.anti x y
    have ih := cmpR_anti h xs ys
    simp only [cmpR]
    by_cases h0 : c x y = 0
    · rw [if_pos h0, if_pos (by omega), ih]
    · rw [if_neg h0, if_neg (by omega), e]
theorem cmpR_tri {α : Type} {c : α → α → Int} (h : Cmp c) : ∀ x y, cmpR c x y = -1 ∨ cmpR c x y = 0 ∨ cmpR c x y = 1
  | [], [] => Or.inr (Or.inl rfl)
  | [], _ :: _ => Or.inl rfl
  | _ :: _, [] => Or.inr (Or.inr rfl)
  | x :: xs, y :: ys => by
    simp only [cmpR]
    split
    · exact cmpR_tri h xs ys
    · exact h.tri x y
theorem cmpR_eq0 {α : Type} {c : α → α → Int} (h : Cmp c) : ∀ x y, cmpR c x y = 0 ↔ x = y
  | [], [] => by simp [cmpR]
  | [], _ :: _ => by simp [cmpR]
  | _ :: _, [] => by simp [cmpR]
  | x :: xs, y :: ys => by
    have ih := cmpR_eq0 h xs ys
    have e := h.eq0 x y
    simp only [cmpR, List.cons.injEq]
    by_cases h0 : c x y = 0
    · rw [if_pos h0, ih]; exact ⟨fun k => ⟨e.1 h0, k⟩, fun k => k.2⟩
    · rw [if_neg h0]; exact ⟨fun k => absurd k h0, fun k => absurd (e.2 k.1) h0⟩
theorem cmpR_trans {α : Type} {c : α → α → Int} (h : Cmp c) : ∀ x y z, cmpR c x y = -1 → cmpR c y z = -1 → cmpR c x z = -1
  | [], [], _, a, _ => by simp [cmpR] at a
  | _ :: _, [], _, a, _ => by simp [cmpR] at a
  | _, _ :: _, [], _, b => by simp [cmpR] at b
  | [], _ :: _, _ :: _, _, _ => rfl
  | x :: xs, y :: ys, z :: zs, a, b => by
    simp only [cmpR] at a b ⊢
    by_cases a0 : c x y = 0
    · rw [if_pos a0] at a
      rw [(h.eq0 _ _).1 a0]
      by_cases b0 : c y z = 0
      · rw [if_pos b0] at b ⊢; exact cmpR_trans h xs ys zs a b
      · rw [if_neg b0] at b ⊢; exact b
    · rw [if_neg a0] at a
      by_cases b0 : c y z = 0
      · rw [← (h.eq0 _ _).1 b0, if_neg a0]; exact a
      · rw [if_neg b0] at b
        have e := h.trans _ _ _ a b
        rw [if_neg (by omega)]; exact e
theorem Cmp.row {α : Type} {c : α → α → Int} (h : Cmp c) : Cmp (cmpR c) := ⟨cmpR_anti h, cmpR_tri h, cmpR_eq0 h, cmpR_trans h⟩
/-- A row in order, each once. -/
def Up {α : Type} (c : α → α → Int) (l : List α) : Prop := l.Pairwise fun x y => c x y = -1
theorem up_unique {α : Type} {c : α → α → Int} (h : Cmp c) : ∀ {l m : List α}, Up c l → Up c m → (∀ x, x ∈ l ↔ x ∈ m) → l = m
  | [], [], _, _, _ => rfl
  | [], y :: m, _, _, e => by have := (e y).2 (List.mem_cons_self ..); simp at this
  | x :: l, [], _, _, e => by have := (e x).1 (List.mem_cons_self ..); simp at this
  | x :: l, y :: m, a, b, e => by
    obtain ⟨a1, a2⟩ := List.pairwise_cons.1 a
    obtain ⟨b1, b2⟩ := List.pairwise_cons.1 b
    have irr : ∀ z, ¬ c z z = -1 := fun z k => by rw [(h.eq0 z z).2 rfl] at k; omega
    have xy : x = y := by
      rcases List.mem_cons.1 ((e x).1 (List.mem_cons_self ..)) with h1 | h1
      · exact h1
      · rcases List.mem_cons.1 ((e y).2 (List.mem_cons_self ..)) with h2 | h2
        · exact h2.symm
        · have p := a1 y h2
          have q := b1 x h1
          have r := h.anti x y
          omega
    subst xy
    rw [up_unique h a2 b2 fun z => ?_]
    constructor
    · intro hz
      rcases List.mem_cons.1 ((e z).1 (List.mem_cons_of_mem _ hz)) with rfl | h1
      · exact absurd (a1 _ hz) (irr _)
      · exact h1
    · intro hz
      rcases List.mem_cons.1 ((e z).2 (List.mem_cons_of_mem _ hz)) with rfl | h1
      · exact absurd (b1 _ hz) (irr _)
      · exact h1
/-- Each run of the same but once. -/
def dd {α : Type} (c : α → α → Int) : List α → List α
  | [] => []
  | [x] => [x]
  | x :: y :: l => if c y x = 0 then dd c (y :: l) else x :: dd c (y :: l)
theorem dd_mem {α : Type} {c : α → α → Int} (h : Cmp c) : ∀ (l : List α) (z : α), z ∈ dd c l ↔ z ∈ l
  | [], _ => Iff.rfl
  | [x], _ => Iff.rfl
  | x :: y :: l, z => by
    have ih := dd_mem h (y :: l) z
    simp only [dd]
    by_cases h0 : c y x = 0
    · rw [if_pos h0, ih, (h.eq0 _ _).1 h0]
      simp
    · rw [if_neg h0, List.mem_cons, ih, List.mem_cons (a := z) (b := x)]
theorem dd_up {α : Type} {c : α → α → Int} (h : Cmp c) : ∀ {l : List α}, l.Pairwise (fun x y => ¬ c y x < 0) → Up c (dd c l)
  | [], _ => List.Pairwise.nil
  | [x], _ => List.pairwise_singleton _ _
  | x :: y :: l, a => by
    obtain ⟨a1, a2⟩ := List.pairwise_cons.1 a
    obtain ⟨b1, b2⟩ := List.pairwise_cons.1 a2
    have ih := dd_up h a2
    simp only [dd]
    by_cases h0 : c y x = 0
    · rw [if_pos h0]; exact ih
    · rw [if_neg h0]
      refine List.pairwise_cons.2 ⟨fun z hz => ?_, ih⟩
      have hz' := (dd_mem h _ z).1 hz
      have t := h.tri y x
      have n := a1 y (List.mem_cons_self ..)
      have an := h.anti y x
      have xy : c x y = -1 := by omega
      rcases List.mem_cons.1 hz' with rfl | hz2
      · exact xy
      · have n2 := b1 z hz2
        have t2 := h.tri z y
        have an2 := h.anti z y
        by_cases z0 : c z y = 0
        · rw [(h.eq0 _ _).1 z0]; exact xy
        · exact h.trans _ _ _ xy (by omega)
end Go.Proofs.Ytfejjfbhlmjkeaa.CQ
