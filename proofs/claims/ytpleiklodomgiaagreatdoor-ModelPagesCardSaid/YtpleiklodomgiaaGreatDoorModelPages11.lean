import Derived.Shelf.SlSortCmp.WholeK
import Derived.Test.YtpleiklodomgiaaGreatDoorModelPages10
set_option linter.unusedVariables false
set_option linter.unusedSimpArgs false
section
namespace Go.Proofs.YtpleiklodomgiaaGreatDoor.B
end Go.Proofs.YtpleiklodomgiaaGreatDoor.B
namespace Go.Proofs.YtpleiklodomgiaaGreatDoor.CQ
end Go.Proofs.YtpleiklodomgiaaGreatDoor.CQ
namespace Go.Proofs.YtpleiklodomgiaaGreatDoor.PModelIs
end Go.Proofs.YtpleiklodomgiaaGreatDoor.PModelIs
namespace Go.Proofs.YtpleiklodomgiaaGreatDoor.C
open Go.RowKit Go.Sort Go.Proofs.YtpleiklodomgiaaGreatDoorW.PrintWords Go.Proofs.YtpleiklodomgiaaGreatDoorW.PrintLast Go.Proofs.YtpleiklodomgiaaGreatDoorW.PrintMore Go.Proofs.YtpleiklodomgiaaGreatDoor.B Go.Proofs.YtpleiklodomgiaaGreatDoor.PModelIs Go.Proofs.YtpleiklodomgiaaGreatDoor.CQ
def keyOf {w : World} (x : EntIn w) : Key := x.1.key
def eqE {w : World} (x y : EntIn w) : Bool := cmpE (keyOf x) (keyOf y) == 0
theorem below_putRow {w0 w : World} {n0 blk off : Nat} {F : Array Value} (h : Below n0 w0 w) (hb : n0 ≤ blk) : Below n0 w0 (putRow id w blk off F) := by
 refine h.trans ⟨rfl, rfl, rfl, by rw [size_putRow]; exact Nat.le_refl _, fun k hk => ?_⟩
 unfold putRow mapBlock
 simp only [Array.getElem?_modify]
 rw [if_neg (by omega)]
theorem below_sortW {α : Type} [Inhabited α] {e : α → List Value} {w0 w : World} {n0 blk off m : Nat} {dk : Array α} {os : Array Obj} (h : Below n0 w0 w) (hb : n0 ≤ blk) (hn : n0 ≤ w.heap.size) : Below n0 w0 (sortWorldK e 3 w blk off m dk os) := by
 have h1 : Below n0 w0 (Sort.ahead w m) := h.trans ⟨rfl, rfl, rfl, Nat.le_refl _, fun _ _ => rfl⟩
 have h2 : Below n0 w0 (putRowK e 3 (Sort.ahead w m) blk off dk) := below_putRow h1 hb
 unfold sortWorldK
 refine h2.trans ⟨rfl, rfl, rfl, by rw [size_grow]; omega, fun k hk => heap_grow_old _ _ ?_⟩
 unfold putRowK
 rw [size_putRow]
 exact Nat.lt_of_lt_of_le hk hn
theorem below_class {w0 w : World} {n0 : Nat} (h : Below n0 w0 w) (hn : n0 ≤ w.heap.size) (n : Nat) (os : Array Obj) : Below n0 w0 (grow (w.drewN n) os) :=
 h.trans ⟨rfl, rfl, rfl, by rw [size_grow]; exact Nat.le_add_right _ _, fun k hk => heap_grow_old _ _ (Nat.lt_of_lt_of_le hk hn)⟩
theorem Ent.In.below {x : Ent} {w w' : World} (h : x.In w) (k : Below w.heap.size w w') : x.In w' := ⟨Kd.C_below h.lies k, h.cap, h.few⟩
theorem setMany_one {α : Type} [Inhabited α] (e : α → List Value) (k : Nat) (hk : ∀ x, (e x).length = k) (d : Array α) (i : Nat) (x : α) (hi : i < d.size) : setMany (flatK e k d) (i * k) (e x) = flatK e k (d.setIfInBounds i x) := by
 refine ext_get! (by simp) fun t ht => ?_
 have ht' : t < d.size * k := by simpa using ht
 have k0 : 0 < k := by rcases Nat.eq_zero_or_pos k with h | h; · subst h; simp at ht'
                       · exact h
 rw [get_setMany _ _ _ t (by simpa using ht'), get_flatK _ _ _ t ht', get_flatK _ _ _ t (by simpa using ht'), hk]
 have m : ∀ q, t / k = q → t - q * k = t % k := fun q h => by subst h; rw [Nat.mod_eq_sub_div_mul]
 by_cases a : t / k = i
 ·rw [if_pos ((blk_iff k i t k0).2 a), m i a, a, getElem!_set_same d i x hi]
 ·rw [if_neg (fun h => a ((blk_iff k i t k0).1 h))]
  congr 2
  rw [getElem!_def, getElem!_def, Array.getElem?_setIfInBounds, if_neg (Ne.symm a)]
theorem holdsK_cell {w0 W : World} {blk off : Nat} {d : Array (EntIn w0)} (h : HoldsK enc 3 W blk off d) {i : Nat} (hi : i < d.size) {x : EntIn w0} (hx : d[i]! = x) :
  W.cell? ⟨blk, off + i * 3, none⟩ = some (.int .i64 x.1.at_) ∧ W.cell? ⟨blk, off + i * 3 + 1, none⟩ = some (.slice x.1.A x.1.ls.length x.1.c) ∧ W.cell? ⟨blk, off + i * 3 + 2, none⟩ = some (.string x.1.line) ∧
  W.frozen? ⟨blk, off + i * 3, none⟩ = false ∧ W.frozen? ⟨blk, off + i * 3 + 1, none⟩ = false ∧ W.frozen? ⟨blk, off + i * 3 + 2, none⟩ = false := by
 have hs : (flatK enc 3 d).size = d.size * 3 := size_flatK _ _ _
 have c : ∀ r, r < 3 → W.cell? ⟨blk, off + i * 3 + r, none⟩ = some (enc x)[r]! ∧ W.frozen? ⟨blk, off + i * 3 + r, none⟩ = false := fun r hr => by
  have h1 := h (i * 3 + r) (by rw [hs]; omega)
  rw [get_flatK _ _ _ _ (by omega), show (i * 3 + r) / 3 = i by omega, show (i * 3 + r) % 3 = r by omega, hx, ← Nat.add_assoc] at h1
  exact h1
 exact ⟨(c 0 (by omega)).1, (c 1 (by omega)).1, (c 2 (by omega)).1, (c 0 (by omega)).2, (c 1 (by omega)).2, (c 2 (by omega)).2⟩
theorem same_in {w0 : World} (x y : EntIn w0) (V : World) (h : Below w0.heap.size w0 V) : Calls Tryz.prog 38 #[x.1.val, y.1.val] V fun e w' => e = .returned (.bool (eqE x y)) ∧ ∃ q os', w' = grow (V.drewN q) os' :=
 (same_any x.1 y.1 V (x.2.below h) (y.2.below h)).mono fun _ _ ⟨he, hb⟩ => ⟨he, hb.grow⟩
theorem store_in {w0 w wr : World} {blk off m : Nat} {dk : Array (EntIn w0)} {os : Array Obj} (hblk : blk < w.heap.size) (hwr : wr = sortWorldK enc 3 w blk off m dk os) {i : Nat} (hi : i < dk.size) (x : EntIn w0) :
  wr.setCells blk (off + i * 3) (enc x) = sortWorldK enc 3 w blk off m (dk.setIfInBounds i x) os := by
 subst hwr
 unfold sortWorldK
 rw [setCells_grow os blk _ _ _ (by show blk < (putRowK enc 3 _ blk off dk).heap.size; rw [size_putRowK]; exact hblk)]
 congr 1
 unfold putRowK
 rw [setCells_putRow _ _ _ _ _ _ (by rw [size_flatK]; show i * 3 + 3 ≤ _; omega), setMany_one enc 3 enc_len dk i x hi]
end Go.Proofs.YtpleiklodomgiaaGreatDoor.C
end
