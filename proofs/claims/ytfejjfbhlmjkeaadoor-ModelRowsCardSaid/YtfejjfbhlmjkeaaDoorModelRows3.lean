/- Texts of this claim (printed ones, too), put together by a program that left out what the claim does not use. -/
import Derived.Laws.BytesArg
import Derived.Lib.AppendStr
import Derived.Lib.ConvBytes
import Derived.Lib.SlBytesConst
import Derived.Maps.AppendAt
import Derived.Deep.AppendLies
import Derived.OwnWalk
import Derived.Test.YtfejjfbhlmjkeaaDoorModelRows1
section
set_option linter.unusedVariables false
set_option linter.unusedSimpArgs false
namespace Go.Proofs.YtfejjfbhlmjkeaaDoor.B
open Go.RowKit Go.Proofs.YtfejjfbhlmjkeaaDoorW.PrintWords
/-- A byte as a cell. -/
def bv (b : UInt8) : Value := .int .u8 (b.toNat : Int)
/-- Bytes as cells. -/
def cs (l : List UInt8) : List Value := l.map bv
theorem cs_length (l : List UInt8) : (cs l).length = l.length := by simp [cs]
/-- The slice value v owns the cells xs: it is nil and they are none, or its row is a block from base on, of which no cell within the capacity is frozen. -/
def Own (w : World) (base : Nat) (e : TypeId) (v : Value) (xs : List Value) : Prop :=
  (v = .slice none 0 0 ∧ xs = []) ∨
  ∃ g cap cur fz, v = .slice (some ⟨g, 0, none⟩) xs.length cap ∧ base ≤ g ∧ w.heap[g]? = some (.cells cur e fz) ∧ (cap ≤ fz.1 ∨ fz.2 = 0) ∧ xs.length ≤ cap ∧ cap ≤ maxLen ∧ cur.size = cap ∧ cur.toList.take xs.length = xs
theorem Own.nil (w : World) (base : Nat) (e : TypeId) : Own w base e (.slice none 0 0) [] := .inl ⟨rfl, rfl⟩
theorem Own.kept {w w' : World} {base : Nat} {e : TypeId} {v : Value} {xs : List Value} {row : Option Nat} (h : Own w base e v xs) (hg : w.grownBy w' row) (hne : v.ownBlock = none ∨ v.ownBlock ≠ row) : Own w' base e v xs := by
  rcases h with h | ⟨g, cap, cur, fz, rfl, hb, hgg, rest⟩
  · exact .inl h
  · refine .inr ⟨g, cap, cur, fz, rfl, hb, ?_, rest⟩
    rw [hg.block g (Array.getElem?_eq_some_iff.1 hgg).1 (by simpa [Value.ownBlock] using hne)]
    exact hgg
theorem Own.lt {w : World} {base : Nat} {e : TypeId} {v : Value} {xs : List Value} (h : Own w base e v xs) : ∀ k, v.ownBlock = some k → base ≤ k ∧ k < w.heap.size := by
  intro k hk
  rcases h with ⟨rfl, _⟩ | ⟨g, cap, cur, fz, rfl, hb, hg, _⟩
  · simp [Value.ownBlock] at hk
  · simp [Value.ownBlock] at hk
    subst hk
    exact ⟨hb, (Array.getElem?_eq_some_iff.1 hg).1⟩
theorem Own.alloc {w : World} {base : Nat} {e : TypeId} {v : Value} {xs : List Value} (h : Own w base e v xs) (o : Obj) : Own (w.alloc o) base e v xs :=
  h.kept (World.grownBy_alloc w o none) (by cases v.ownBlock <;> simp)
theorem Own.below {w w' : World} {base : Nat} {e : TypeId} {v : Value} {xs : List Value} (h : Own w base e v xs) (hb : Below w.heap.size w w') : Own w' base e v xs :=
  h.kept (grown_of_below hb none) (by cases v.ownBlock <;> simp)
theorem Own.drewN {w : World} {base : Nat} {e : TypeId} {v : Value} {xs : List Value} (h : Own w base e v xs) (n : Nat) : Own (w.drewN n) base e v xs := h
theorem Own.drew {w : World} {base : Nat} {e : TypeId} {v : Value} {xs : List Value} (h : Own w base e v xs) : Own w.drew base e v xs := h
theorem Own.cells {w : World} {base : Nat} {e : TypeId} {v : Value} {xs : List Value} (h : Own w base e v xs) {g : Nat} (hg : v.ownBlock = some g) : ∀ j u, xs[j]? = some u → w.cell? ((⟨g, 0, none⟩ : Addr).add j) = some u := by
  intro j u hu
  rcases h with ⟨rfl, _⟩ | ⟨g', cap, cur, fz, rfl, _, hgg, _, _, _, _, htake⟩
  · simp [Value.ownBlock] at hg
  · simp [Value.ownBlock] at hg
    subst hg
    rw [add_plain, cell_of_row w g' j cur e fz hgg]
    rw [← htake, List.getElem?_take] at hu
    split at hu
    · simpa using hu
    · cases hu
/-- A cell of what is owned: what it holds, and that it may be written. -/
theorem Own.at_ {w : World} {base g n cap : Nat} {e : TypeId} {xs : List Value} (h : Own w base e (.slice (some ⟨g, 0, none⟩) n cap) xs) (i : Nat) (hi : i < xs.length) :
    w.cell? ⟨g, i, none⟩ = some xs[i] ∧ w.frozen? ⟨g, i, none⟩ = false := by
  constructor
  · have := h.cells rfl i xs[i] (by simp [hi])
    rwa [add_plain] at this
  · rcases h with ⟨h, _⟩ | ⟨g', cap', cur, fz, h, _, hg, hfz, hn, _, hc, _⟩
    · cases h
    · cases h
      obtain ⟨lo, hi'⟩ := fz
      simp only [World.frozen?, hg, Bool.and_eq_false_iff, decide_eq_false_iff_not]
      simp only at hfz
      omega
/-- A store into what is owned. -/
theorem Own.store {w : World} {base g n cap : Nat} {e : TypeId} {xs : List Value} (h : Own w base e (.slice (some ⟨g, 0, none⟩) n cap) xs) (i : Nat) (hi : i < xs.length) (u : Value) :
    Own (w.setCell ⟨g, i, none⟩ u) base e (.slice (some ⟨g, 0, none⟩) n cap) (xs.set i u) ∧ w.grownBy (w.setCell ⟨g, i, none⟩ u) (some g) := by
  rcases h with ⟨h, _⟩ | ⟨g', cap', cur, fz, h, hb, hg, hfz, hn, hm, hc, ht⟩
  · cases h
  · cases h
    rw [setCell_eq_setRow w g i cur e fz u hg]
    refine ⟨.inr ⟨g, cap, cur.setIfInBounds i u, fz, by simp, hb, setRow_heap w g cur _ e fz hg, hfz, by simpa using hn, hm, by simpa using hc, ?_⟩, ⟨rfl, rfl, rfl, by simp, fun k _ hk => setRow_other w g k _ (fun e => hk (by rw [e]))⟩⟩
    rw [Array.toList_setIfInBounds, List.length_set, List.take_set, ht]
section
variable {P : Program} (w : World)
end
section
variable {P : Program} {w : World} {ops : Array Oper} {rest : List Oper} {o : Oper} {a : Act} {Q : Exit → Act → World → Prop}
end
/-- A new row that is written out, as what is appended. -/
theorem news_row (w : World) (xs : List Value) (t : TypeId) : ∀ ad, some (⟨w.heap.size, 0, none⟩ : Addr) = some ad → ∀ j u, xs[j]? = some u → (w.alloc (.cells xs.toArray t)).cell? (ad.add j) = some u := by
  intro ad h j u hu
  cases h
  exact World.news_of_block (cs := xs.toArray) (t := t) (fr := (0, 0)) (Go.heap_alloc_new w _) j u (by simpa using hu)
theorem grown_refl (w : World) (row : Option Nat) : w.grownBy w row := World.grownBy.refl w row
theorem grown_drewN {w w1 : World} {row : Option Nat} (h : w.grownBy w1 row) (n : Nat) : w.grownBy (w1.drewN n) row := ⟨h.os, h.tape, h.output, h.size, h.block⟩
/-- A slice of bytes that is read, at whatever place. -/
def Reads (w : World) (A : Option Addr) (l : List UInt8) : Prop := (A = none → l = []) ∧ ∀ ad, A = some ad → ∀ j (h : j < l.length), w.cell? (ad.add j) = some (bv l[j])
theorem Reads.below {w w' : World} {A : Option Addr} {l : List UInt8} (h : Reads w A l) (hb : Below w.heap.size w w') : Reads w' A l :=
  ⟨h.1, fun ad e j hj => pw_cell_below hb (h.2 ad e j hj)⟩
theorem Own.reads {w : World} {base : Nat} {e : TypeId} {v : Value} {l : List UInt8} (h : Own w base e v (cs l)) : ∃ A c, v = .slice A l.length c ∧ Reads w A l ∧ l.length ≤ c ∧ l.length ≤ 9223372036854775807 := by
  have h' := h
  rcases h with ⟨rfl, h0⟩ | ⟨g, cap, cur, fz, rfl, hbg, hg, hfz, hnc, hcm, hcs, htake⟩
  · have : l = [] := by simpa [cs] using h0
    subst this
    exact ⟨none, 0, rfl, ⟨fun _ => rfl, fun _ e => (by cases e)⟩, by simp, by simp⟩
  · refine ⟨_, cap, by rw [cs_length], ⟨fun e => (by cases e), fun ad e j hj => ?_⟩, by simpa [cs_length] using hnc, by rw [cs_length] at hnc; simp only [maxLen] at hcm; omega⟩
    cases e
    exact h'.cells rfl j _ (by simp [cs, hj])
theorem Reads.take {w : World} {A : Option Addr} {l : List UInt8} (h : Reads w A l) (i : Nat) : Reads w A (l.take i) :=
  ⟨fun e => by rw [h.1 e]; simp, fun ad e j hj => by
    rw [List.length_take] at hj
    rw [h.2 ad e j (by omega)]
    simp⟩
theorem Reads.drop {w : World} {A : Option Addr} {l : List UInt8} {c : Nat} (h : Reads w A l) (i : Nat) (hi : i ≤ l.length) (hc : l.length ≤ c) : Reads w (if c = i then A else A.map (·.add i)) (l.drop i) := by
  by_cases e : c = i
  · have : l.drop i = [] := by rw [List.drop_eq_nil_iff]; omega
    rw [if_pos e, this]
    exact ⟨fun _ => rfl, fun _ _ j hj => by simp at hj⟩
  · rw [if_neg e]
    refine ⟨fun h0 => ?_, fun ad h0 j hj => ?_⟩
    · cases A with
      | none => rw [h.1 rfl]; simp
      | some x => cases h0
    · cases A with
      | none => cases h0
      | some x =>
        cases h0
        rw [List.length_drop] at hj
        have ha : (x.add i).add j = x.add (i + j) := by
          unfold Addr.add
          by_cases h1 : i = 0 <;> by_cases h2 : j = 0 <;> simp [h1, h2, Nat.add_assoc]
        rw [ha, h.2 x rfl (i + j) (by omega)]
        simp
end Go.Proofs.YtfejjfbhlmjkeaaDoor.B
end
