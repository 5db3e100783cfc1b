/- The words of a row of bytes: plain laws, with no program in sight. -/
import Derived.Lib.TrimUEq
import Derived.Lib.MapLaws
import Derived.Lib.TrimAscii
set_option linter.unusedVariables false
set_option linter.unusedSimpArgs false
namespace Go.Proofs.YtfejjfbhlmjkeaaDoor.WL
open Go.Lib

set_option maxRecDepth 100000 in
set_option maxHeartbeats 4000000 in
/-- A blank behind it all ends what is decoded as the end does. -/
theorem decodeN_blank (n n' b0 b1 b2 b3 c1 c2 c3 : Nat) (hn : 1 ≤ n) (hnn : n < n') (e1 : 1 < n → c1 = b1) (e2 : 2 < n → c2 = b2) (e3 : 3 < n → c3 = b3) (f1 : n = 1 → c1 = 32) (f2 : n = 2 → c2 = 32) (f3 : n = 3 → c3 = 32) : decodeN n' b0 c1 c2 c3 = decodeN n b0 b1 b2 b3 := by
  rcases (by omega : n = 1 ∨ n = 2 ∨ n = 3 ∨ 4 ≤ n) with rfl | rfl | rfl | h4
  · obtain rfl := f1 rfl
    unfold decodeN
    repeat' split
    all_goals first | (exfalso; omega) | rfl
  · obtain rfl := e1 (by omega)
    obtain rfl := f2 rfl
    unfold decodeN
    repeat' split
    all_goals first | (exfalso; omega) | rfl
  · obtain rfl := e1 (by omega)
    obtain rfl := e2 (by omega)
    obtain rfl := f3 rfl
    unfold decodeN
    repeat' split
    all_goals first | (exfalso; omega) | rfl
  · obtain rfl := e1 (by omega)
    obtain rfl := e2 (by omega)
    obtain rfl := e3 (by omega)
    unfold decodeN
    repeat' split
    all_goals first | (exfalso; omega) | rfl
set_option maxRecDepth 100000 in
set_option maxHeartbeats 4000000 in
/-- A rune that is decoded well hangs on its own bytes alone. -/
theorem decodeN_own (n n' b0 b1 b2 b3 c1 c2 c3 : Nat) (h : (decodeN n b0 b1 b2 b3).1 ≠ 65533) (hw : (decodeN n b0 b1 b2 b3).2 ≤ n') (e1 : 1 < (decodeN n b0 b1 b2 b3).2 → c1 = b1) (e2 : 2 < (decodeN n b0 b1 b2 b3).2 → c2 = b2) (e3 : 3 < (decodeN n b0 b1 b2 b3).2 → c3 = b3) : decodeN n' b0 c1 c2 c3 = decodeN n b0 b1 b2 b3 := by
  unfold decodeN at h hw e1 e2 e3 ⊢
  split
  · rfl
  · rename_i h0
    rw [if_neg h0] at h hw e1 e2 e3
    split at h
    · rename_i h1
      rw [if_pos h1] at hw e1 e2 e3 ⊢
      split at h
      · rename_i h2
        rw [if_pos h2] at hw e1 e2 e3 ⊢
        obtain rfl := e1 (by simp)
        simp only at hw
        rw [if_pos ⟨h1.1, by omega, h1.2.2⟩, if_pos h2]
      · exact absurd rfl h
    · rename_i h1
      rw [if_neg h1] at hw e1 e2 e3 ⊢
      split at h
      · rename_i h2
        rw [if_pos h2] at hw e1 e2 e3 ⊢
        split at h
        · rename_i h3
          rw [if_pos h3] at hw e1 e2 e3 ⊢
          obtain rfl := e1 (by simp)
          obtain rfl := e2 (by simp)
          simp only at hw
          rw [if_neg (by omega), if_pos ⟨h2.1, ⟨by omega, h2.2.1.2⟩, by omega, h2.2.2.2⟩, if_pos h3]
        · exact absurd rfl h
      · rename_i h2
        rw [if_neg h2] at hw e1 e2 e3 ⊢
        split at h
        · rename_i h3
          rw [if_pos h3] at hw e1 e2 e3 ⊢
          split at h
          · rename_i h4
            rw [if_pos h4] at hw e1 e2 e3 ⊢
            obtain rfl := e1 (by simp)
            obtain rfl := e2 (by simp)
            obtain rfl := e3 (by simp)
            simp only at hw
            rw [if_neg (by omega), if_neg (by omega), if_pos ⟨h3.1, ⟨by omega, h3.2.1.2⟩, ⟨by omega, h3.2.2.1.2⟩, by omega, h3.2.2.2.2⟩, if_pos h4]
          · exact absurd rfl h
        · exact absurd rfl h
theorem getD_app {a b : List UInt8} {k : Nat} (h : k < a.length) : (a ++ b).getD k 0 = a.getD k 0 := by
  simp [List.getD, List.getElem?_append_left h]
theorem getD_end (a b : List UInt8) (x : UInt8) : (a ++ x :: b).getD a.length 0 = x := by
  simp [List.getD]
/-- The same of rows. -/
theorem decodeL_blank (a b : List UInt8) (ha : a ≠ []) : decodeL (a ++ 32 :: b) = decodeL a := by
  have hl : 1 ≤ a.length := List.length_pos_iff.2 ha
  have g : ∀ k, k < a.length → ((a ++ 32 :: b).getD k 0).toNat = (a.getD k 0).toNat := fun k h => by rw [getD_app h]
  have e : ∀ k, a.length = k → ((a ++ 32 :: b).getD k 0).toNat = 32 := fun k h => by rw [← h, getD_end]; rfl
  rw [decodeL_N, decodeL_N a, g 0 (by omega)]
  exact decodeN_blank _ _ _ _ _ _ _ _ _ hl (by simp) (g 1) (g 2) (g 3) (e 1) (e 2) (e 3)
theorem decodeL_own (l t : List UInt8) (hl : l ≠ []) (h : (decodeL l).1 ≠ 65533) : decodeL (l.take (decodeL l).2 ++ t) = decodeL l := by
  have hw := decodeL_le l hl
  have hp := decodeL_width l
  have g : ∀ k, k < (decodeL l).2 → ((l.take (decodeL l).2 ++ t).getD k 0).toNat = (l.getD k 0).toNat := fun k hk => by
    rw [getD_app (by rw [List.length_take]; omega), getD_takeU _ _ _ hk]
  rw [decodeL_N (l.take _ ++ t), g 0 (by omega)]
  rw [decodeL_N l] at h hw hp g ⊢
  exact decodeN_own _ _ _ _ _ _ _ _ _ h (by rw [List.length_append, List.length_take]; omega) (g 1) (g 2) (g 3)

variable (L : Nat → Bool)
/-- The words of a row of bytes; cur: what is had of the word at hand. -/
def wl (l : List UInt8) (cur : Option (List UInt8)) : List (List UInt8) :=
  if h : l = [] then cur.toList
  else if L (decodeL l).1 = true then wl (l.drop (decodeL l).2) (some (cur.getD [] ++ l.take (decodeL l).2))
  else cur.toList ++ wl (l.drop (decodeL l).2) none
termination_by l.length
decreasing_by
  all_goals (have := decodeL_width l; have := List.length_pos_iff.2 h; rw [List.length_drop]; omega)
theorem wl_nil (cur : Option (List UInt8)) : wl L [] cur = cur.toList := by rw [wl.eq_def, dif_pos rfl]
theorem wl_is {l : List UInt8} (h : l ≠ []) (hl : L (decodeL l).1 = true) (cur : Option (List UInt8)) : wl L l cur = wl L (l.drop (decodeL l).2) (some (cur.getD [] ++ l.take (decodeL l).2)) := by
  rw [wl.eq_def, dif_neg h, if_pos hl]
theorem wl_not {l : List UInt8} (h : l ≠ []) (hl : L (decodeL l).1 = false) (cur : Option (List UInt8)) : wl L l cur = cur.toList ++ wl L (l.drop (decodeL l).2) none := by
  rw [wl.eq_def, dif_neg h, if_neg (by simp [hl])]
theorem blank_first (b : List UInt8) : decodeL (32 :: b) = (32, 1) := decodeL_ascii 32 b (by decide)
/-- Words parted by a blank are the words of both. -/
theorem wl_blank (h32 : L 32 = false) (b : List UInt8) : ∀ (n : Nat) (a : List UInt8) (cur : Option (List UInt8)), a.length ≤ n → wl L (a ++ 32 :: b) cur = wl L a cur ++ wl L b none := by
  intro n
  induction n with
  | zero =>
    intro a cur ha
    obtain rfl : a = [] := List.eq_nil_of_length_eq_zero (by omega)
    rw [wl_nil, List.nil_append, wl_not L (by simp) (by rw [blank_first]; exact h32), blank_first]
    rfl
  | succ n ih =>
    intro a cur ha
    by_cases h0 : a = []
    · subst h0
      exact ih [] cur (by simp)
    · have hd := decodeL_blank a b h0
      have hw := decodeL_le a h0
      have hp := decodeL_width a
      have hne : a ++ 32 :: b ≠ [] := by simp
      have hlen : (a.drop (decodeL a).2).length ≤ n := by rw [List.length_drop]; omega
      cases hl : L (decodeL a).1 with
      | true => rw [wl_is L hne (by rw [hd]; exact hl), hd, wl_is L h0 hl, List.drop_append_of_le_length hw, List.take_append_of_le_length hw, ih _ _ hlen]
      | false => rw [wl_not L hne (by rw [hd]; exact hl), hd, wl_not L h0 hl, List.drop_append_of_le_length hw, ih _ _ hlen, List.append_assoc]
/-- A row that is a word, or the beginning of one, whatever follows. -/
def Solid (c : List UInt8) : Prop := c ≠ [] ∧ ∀ t cur, wl L (c ++ t) cur = wl L t (some (cur.getD [] ++ c))
theorem solid_rune (hbad : L 65533 = false) {l : List UInt8} (h : l ≠ []) (hl : L (decodeL l).1 = true) : Solid L (l.take (decodeL l).2) := by
  have hw := decodeL_le l h
  have hp := decodeL_width l
  have hlen : (l.take (decodeL l).2).length = (decodeL l).2 := by rw [List.length_take]; omega
  have hne : l.take (decodeL l).2 ≠ [] := fun e => by rw [e] at hlen; simp at hlen; omega
  refine ⟨hne, fun t cur => ?_⟩
  have hd := decodeL_own l t h (fun e => by rw [e, hbad] at hl; cases hl)
  rw [wl_is L (by simp [hne]) (by rw [hd]; exact hl), hd, List.drop_append_of_le_length (Nat.le_of_eq hlen.symm), List.take_append_of_le_length (Nat.le_of_eq hlen.symm), List.drop_of_length_le (Nat.le_of_eq hlen), List.take_of_length_le (Nat.le_of_eq hlen), List.nil_append]
theorem Solid.append {c d : List UInt8} (hc : Solid L c) (hd : Solid L d) : Solid L (c ++ d) :=
  ⟨by simp [hc.1], fun t cur => by rw [List.append_assoc, hc.2, hd.2]; simp⟩
theorem wl_solid (hbad : L 65533 = false) : ∀ (n : Nat) (l : List UInt8) (cur : Option (List UInt8)), l.length ≤ n → (∀ c, cur = some c → Solid L c) → ∀ w ∈ wl L l cur, Solid L w := by
  intro n
  induction n with
  | zero =>
    intro l cur hl hc w hw
    obtain rfl : l = [] := List.eq_nil_of_length_eq_zero (by omega)
    rw [wl_nil] at hw
    exact hc w (by simpa using hw)
  | succ n ih =>
    intro l cur hlen hc w hw
    by_cases h0 : l = []
    · subst h0
      exact ih [] cur (by simp) hc w hw
    · have hp := decodeL_width l
      have h1 := List.length_pos_iff.2 h0
      have hlen2 : (l.drop (decodeL l).2).length ≤ n := by rw [List.length_drop]; omega
      cases hl : L (decodeL l).1 with
      | true =>
        rw [wl_is L h0 hl] at hw
        refine ih _ _ hlen2 (fun c e => ?_) w hw
        cases e
        cases cur with
        | none => exact solid_rune L hbad h0 hl
        | some c0 => exact (hc c0 rfl).append L (solid_rune L hbad h0 hl)
      | false =>
        rw [wl_not L h0 hl] at hw
        rcases List.mem_append.1 hw with hw | hw
        · exact hc w (by simpa using hw)
        · exact ih _ _ hlen2 (fun c e => by cases e) w hw
theorem Solid.alone {c : List UInt8} (h : Solid L c) : wl L c none = [c] := by
  have := h.2 [] none
  rw [List.append_nil, wl_nil] at this
  simpa using this
end Go.Proofs.YtfejjfbhlmjkeaaDoor.WL
