import Derived.Deep.Slices
import Derived.Deep.Fields
import Derived.ChangeSame
set_option linter.unusedVariables false
section
namespace Go.Proofs.YtpleiklodomgiaaGreatDoor.Op
open Go.ChangeShapes Go.WideShapes Go.Deep
section
variable {H : Type} {enc : TypeId × Value → H} {P : Program} {w : World} {base : Nat} {spare : Nat → Bool} {held : Bool}
theorem open_rows {t e : TypeId} {fs : Array Field} {fuel : Nat} {cs : List Value} {x : DataW H × List MemPlace} (ht : P.underlying t = some (.slice e)) (he : P.underlying e = some (.struct fs))
  (hone : oneCellFields P fs = true) (hC : P.cellsOf e = fs.size) (h : DataW.trod enc P w base spare held fuel t cs = some x) :
  ∃ A len cap, cs = [.slice A len cap] ∧ len ≤ cap ∧ cap ≤ maxLen ∧ (A = none → len = 0) ∧
   ∀ a, A = some a → ∀ i, i < len → ∀ (j : Nat) (f : Field), fs[j]? = some f → ∃ (v : Value) (n : Nat) (y : DataW H × List MemPlace), w.cell? ((a.add (i * fs.size)).add j) = some v ∧ DataW.trod enc P w base spare held n f.type [v] = some y := by
 rcases open_slice ht h with ⟨rfl, rfl⟩ | ⟨a, len, cap, m, n, D, Pl, rfl, hb, hl, hm, hmm, hx, hi⟩
 ·exact ⟨none, 0, 0, rfl, Nat.le_refl _, Nat.zero_le _, fun _ => rfl, fun a h => (by cases h)⟩
 ·refine ⟨some a, len, cap, rfl, hl, hm, fun h => (by cases h), fun a' h i hil j f hf => ?_⟩
  cases h
  have him : i < m := by rw [hmm]; split <;> omega
  obtain ⟨cs', hc, hd⟩ := hi i him
  rw [hC] at hc
  obtain ⟨ys, n', _, _, _, hyl, hfs⟩ := DataW.trod_struct he hd
  obtain ⟨_, hcl, hat⟩ := World.cells?_some hc
  obtain ⟨ho, hk⟩ := hone_of hone j f hf
  have hj : j < fs.size := (Array.getElem?_eq_some_iff.1 hf).1
  have hjc : j < cs'.length := by omega
  have h1 := hfs j f hf
  rw [ho, hk, List.drop_eq_getElem_cons hjc] at h1
  have hjy : j < ys.length := by omega
  exact ⟨cs'[j], n', ys[j], by rw [hat j hj]; exact List.getElem?_eq_getElem hjc, h1.trans (List.getElem?_eq_getElem hjy)⟩
end
theorem list_of {α : Type} [Inhabited α] {n : Nat} {p : Nat → α → Prop} (h : ∀ i, i < n → ∃ x, p i x) : ∃ xs : List α, xs.length = n ∧ ∀ i (hi : i < xs.length), p i xs[i] := by
 obtain ⟨f, hf⟩ := choose_lt h
 refine ⟨(List.range n).map f, by simp, fun i hi => ?_⟩
 simp only [List.length_map, List.length_range] at hi
 simpa using hf i hi
end Go.Proofs.YtpleiklodomgiaaGreatDoor.Op
end
