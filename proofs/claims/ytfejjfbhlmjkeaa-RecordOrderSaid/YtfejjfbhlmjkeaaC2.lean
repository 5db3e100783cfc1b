/- The orders of entries as functions; entries in a world; each run of the same but once: plain. -/
import Derived.Test.YtfejjfbhlmjkeaaC1
set_option linter.unusedVariables false
set_option linter.unusedSimpArgs false
namespace Go.Proofs.Ytfejjfbhlmjkeaa.C
open Go.RowKit Go.Proofs.YtfejjfbhlmjkeaaW.PrintWords Go.Proofs.YtfejjfbhlmjkeaaW.PrintLast Go.Proofs.YtfejjfbhlmjkeaaW.PrintMore Go.Proofs.Ytfejjfbhlmjkeaa.B Go.Proofs.Ytfejjfbhlmjkeaa.Reg Go.Proofs.Ytfejjfbhlmjkeaa.PRecordIs Go.Proofs.Ytfejjfbhlmjkeaa.CQ

set_option maxRecDepth 20000 in
theorem turned_any (x y : Ent) (w : World) (hx : x.In w) (hy : y.In w) : Calls Try.prog 54 #[x.val, y.val] w fun e w' => e = .returned (.int .i64 (cmpE y.key x.key)) ∧ Bd w w' := by
  have HC := Aside0.mk (fun V (h : Bd w V) => compare_any y x V (hy.bd h) (hx.bd h))
  obtain ⟨q, hq⟩ : ∃ q, q = cmpE y.key x.key := ⟨_, rfl⟩
  rw [← hq] at HC ⊢
  clear hx hy hq
  obtain ⟨x0, xA, xc, xl, x2⟩ := x
  obtain ⟨y0, yA, yc, yl, y2⟩ := y
  unfold Ent.val at *
  dsimp only at *
  go_enter Try.func54, Try.ntmps54
  go_wp2_with (go_at_call 22; refine (HC.out _ (((Bd.refl w).alloc _).alloc _)).mono ?_; rintro e w1 ⟨rfl, hb1⟩; have HB1 := Aside0.mk ((((Bd.refl w).alloc _).alloc _).trans hb1); clear hb1)
  go_ret
  exact ⟨rfl, HB1.out⟩
set_option maxRecDepth 20000 in
theorem same_any (x y : Ent) (w : World) (hx : x.In w) (hy : y.In w) : Calls Try.prog 58 #[x.val, y.val] w fun e w' => e = .returned (.bool (cmpE x.key y.key == 0)) ∧ Bd w w' := by
  have HC := Aside0.mk (fun V (h : Bd w V) => compare_any x y V (hx.bd h) (hy.bd h))
  obtain ⟨q, hq⟩ : ∃ q, q = cmpE x.key y.key := ⟨_, rfl⟩
  rw [← hq] at HC ⊢
  clear hx hy hq
  obtain ⟨x0, xA, xc, xl, x2⟩ := x
  obtain ⟨y0, yA, yc, yl, y2⟩ := y
  unfold Ent.val at *
  dsimp only at *
  go_enter Try.func58, Try.ntmps58
  go_wp2_with (go_at_call 22; refine (HC.out _ (((Bd.refl w).alloc _).alloc _)).mono ?_; rintro e w1 ⟨rfl, hb1⟩; have HB1 := Aside0.mk ((((Bd.refl w).alloc _).alloc _).trans hb1); clear hb1)
  go_ret
  exact ⟨rfl, HB1.out⟩

/-- An entry that lies in w. -/
def EntIn (w : World) := {x : Ent // x.In w}
def Ent.zero : Ent := ⟨0, none, 0, [], ⟨#[]⟩⟩
theorem zero_in (w : World) : Ent.zero.In w := ⟨⟨rfl, Nat.zero_le _, fun h => absurd h (Nat.lt_irrefl 0)⟩, Nat.le_refl _, Nat.zero_le _⟩
instance (w : World) : Inhabited (EntIn w) := ⟨⟨Ent.zero, zero_in w⟩⟩
def enc {w : World} (x : EntIn w) : List Value := x.1.cells
theorem enc_len {w : World} (x : EntIn w) : (enc x).length = 3 := rfl
theorem enc_one {w : World} (x : EntIn w) : ∀ v ∈ enc x, v.oneCell' = true := by
  intro v hv
  unfold enc Ent.cells at hv
  simp only [List.mem_cons, List.not_mem_nil, or_false] at hv
  rcases hv with rfl | rfl | rfl <;> rfl

section
variable {α : Type} [Inhabited α] (eq : α → α → Bool) (d : Array α)
/-- The first m ones, each run of the same but once. -/
def once : Nat → List α
  | 0 => []
  | m + 1 => if m ≠ 0 ∧ eq d[m]! d[m - 1]! = true then once m else once m ++ [d[m]!]
theorem once_len : ∀ m, (once eq d m).length ≤ m
  | 0 => Nat.le_refl _
  | m + 1 => by
    have := once_len m
    simp only [once]
    split
    · omega
    · rw [List.length_append]; simp only [List.length_singleton]; omega
theorem once_all : ∀ m, (∀ j, 0 < j → j < m → eq d[j]! d[j - 1]! = false) → once eq d m = (List.range m).map fun i => d[i]!
  | 0, _ => rfl
  | m + 1, h => by
    have ih := once_all m fun j h0 h1 => h j h0 (by omega)
    simp only [once]
    rw [if_neg, ih, List.range_succ, List.map_append]
    · rfl
    · rintro ⟨h0, h1⟩
      rw [h m (by omega) (by omega)] at h1
      cases h1
structure OnceInv (m kk : Nat) (dk : Array α) : Prop where
  len : (once eq d m).length = kk
  lt : kk < m
  size : dk.size = d.size
  low : ∀ i, i < kk → dk[i]! = (once eq d m)[i]!
  high : ∀ i, kk ≤ i → dk[i]! = d[i]!
variable {eq d}
theorem OnceInv.start {k : Nat} (h0 : 0 < k) (h : ∀ j, 0 < j → j < k → eq d[j]! d[j - 1]! = false) (hk : eq d[k]! d[k - 1]! = true) : OnceInv eq d (k + 1) k d where
  len := by
    simp only [once]
    rw [if_pos ⟨by omega, hk⟩, once_all eq d k h]; simp
  lt := Nat.lt_succ_self _
  size := rfl
  low i hi := by
    simp only [once]
    rw [if_pos ⟨by omega, hk⟩, once_all eq d k h, List.getElem!_eq_getElem?_getD, List.getElem?_map, List.getElem?_range hi]
    rfl
  high i hi := rfl
theorem OnceInv.skip {m kk : Nat} {dk : Array α} (h : OnceInv eq d m kk dk) (h0 : m ≠ 0) (hm : eq d[m]! d[m - 1]! = true) : OnceInv eq d (m + 1) kk dk := by
  have e : once eq d (m + 1) = once eq d m := by simp only [once]; rw [if_pos ⟨h0, hm⟩]
  exact ⟨by rw [e]; exact h.len, by have := h.lt; omega, h.size, by rw [e]; exact h.low, h.high⟩
theorem OnceInv.keep {m kk : Nat} {dk : Array α} (h : OnceInv eq d m kk dk) (hlt : m < d.size) (hm : eq d[m]! d[m - 1]! = false) : OnceInv eq d (m + 1) (kk + 1) (dk.setIfInBounds kk d[m]!) := by
  have e : once eq d (m + 1) = once eq d m ++ [d[m]!] := by simp only [once]; rw [if_neg (by rintro ⟨_, h1⟩; rw [hm] at h1; cases h1)]
  have hl := h.len
  have hlt' := h.lt
  have hs := h.size
  refine ⟨by rw [e, List.length_append, hl]; rfl, by omega, by simpa using hs, fun i hi => ?_, fun i hi => ?_⟩
  · rw [e, List.getElem!_eq_getElem?_getD, getElem!_def, Array.getElem?_setIfInBounds]
    by_cases hik : kk = i
    · subst hik
      rw [if_pos rfl, if_pos (by omega), List.getElem?_append_right (by omega), hl, Nat.sub_self]
      rfl
    · rw [if_neg hik, List.getElem?_append_left (by omega)]
      have := h.low i (by omega)
      rw [List.getElem!_eq_getElem?_getD, getElem!_def] at this
      exact this
  · rw [getElem!_def, Array.getElem?_setIfInBounds, if_neg (by omega), ← getElem!_def]
    exact h.high i (by omega)
end
end Go.Proofs.Ytfejjfbhlmjkeaa.C
