import Derived.Lib.TrimUEq
import Derived.Lib.MapLaws
import Derived.Lib.TrimAscii
import Derived.Test.YtpleiklodomgiaaGreatDoorModelPages17
set_option linter.unusedVariables false
set_option linter.unusedSimpArgs false
section
namespace Go.Proofs.YtpleiklodomgiaaGreatDoor.B
end Go.Proofs.YtpleiklodomgiaaGreatDoor.B
namespace Go.Proofs.YtpleiklodomgiaaGreatDoor.WL
end Go.Proofs.YtpleiklodomgiaaGreatDoor.WL
namespace Go.Proofs.YtpleiklodomgiaaGreatDoor.W
open Go.RowKit Go.Lib Go.Proofs.YtpleiklodomgiaaGreatDoor.B Go.Proofs.YtpleiklodomgiaaGreatDoor.WL
def word (s : ByteArray) (x : Nat × Nat) : ByteArray := s.extract x.1 x.2
def words (s : ByteArray) : List ByteArray := (spansFrom s 0 none).map (word s)
def inner (s : ByteArray) : List ByteArray := ((spansFrom s 0 none).filter fun x => decide (0 < x.1) && decide (x.2 < s.size)).map (word s)
theorem size_list (s : ByteArray) : s.data.toList.length = s.size := Array.length_toList
theorem word_str (s : ByteArray) (f t : Nat) : word s (f, t) = str ((s.data.toList.drop f).take (t - f)) := by
 unfold word str
 apply ByteArray.ext
 rw [ByteArray.data_extract]
 apply Array.ext'
 simp [List.extract_eq_take_drop]
theorem spans_le (s : ByteArray) : ∀ (n pos : Nat) (fr : Option Nat), s.size - pos ≤ n → pos ≤ s.size → (∀ f, fr = some f → f ≤ pos) → ∀ x ∈ spansFrom s pos fr, x.1 ≤ x.2 ∧ x.2 ≤ s.size := by
 have hend : ∀ (pos : Nat) (fr : Option Nat), pos = s.size → (∀ f, fr = some f → f ≤ pos) → ∀ x ∈ spansFrom s pos fr, x.1 ≤ x.2 ∧ x.2 ≤ s.size := by
  intro pos fr hp h3 x hx
  rw [spansFrom_end (by omega)] at hx
  cases fr with
  | none => cases hx
  | some f => have := h3 f rfl; simp at hx; subst hx; simp; omega
 intro n
 induction n with
 | zero => exact fun pos fr h1 h2 h3 => hend pos fr (by omega) h3
 | succ n ih =>
  intro pos fr h1 h2 h3 x hx
  by_cases hp : pos < s.size
  ·have hd := decodeL_drop s pos
   have hne : s.data.toList.drop pos ≠ [] := fun e => by have h := congrArg List.length e; rw [List.length_drop, size_list, List.length_nil] at h; omega
   have hw := decodeL_le _ hne
   have hwp := decodeL_width (s.data.toList.drop pos)
   have hsz := size_list s
   rw [List.length_drop, hsz] at hw
   rw [hd] at hw hwp
   cases hl : letter ((Utf8.decode s pos).1 : Int) with
   | true =>
    rw [spansFrom_is hp hl] at hx
    exact ih _ _ (by omega) (by omega) (fun f e => by
     cases e
     cases fr with
     | none => simp
     | some f => have := h3 f rfl; simp; omega) x hx
   | false =>
    cases fr with
    | none => rw [spansFrom_none hp hl] at hx; exact ih _ _ (by omega) (by omega) (fun f e => by cases e) x hx
    | some f =>
     rw [spansFrom_some hp hl] at hx
     rcases List.mem_cons.1 hx with rfl | hx
     ·have := h3 f rfl; simp; omega
     ·exact ih _ _ (by omega) (by omega) (fun f e => by cases e) x hx
  ·exact hend pos fr (by omega) h3 x hx
end Go.Proofs.YtpleiklodomgiaaGreatDoor.W
end
