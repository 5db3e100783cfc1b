/- Texts of this claim (printed ones, too), put together by a program that left out what the claim does not use. -/
import Derived.Shelf.AbstractIn
import Derived.Sort.Grow
import Derived.Test.YtfejjfbhlmjkeaaDoorMatchIs14
import Derived.Test.YtfejjfbhlmjkeaaDoorMatchIs3
import Derived.Test.YtfejjfbhlmjkeaaDoorMatchIs6
section
namespace Go.Proofs.YtfejjfbhlmjkeaaDoor.B
end Go.Proofs.YtfejjfbhlmjkeaaDoor.B
namespace Go.Proofs.YtfejjfbhlmjkeaaDoor.CQ
end Go.Proofs.YtfejjfbhlmjkeaaDoor.CQ
namespace Go.Proofs.YtfejjfbhlmjkeaaDoor.PModelMore
end Go.Proofs.YtfejjfbhlmjkeaaDoor.PModelMore
namespace Go.Proofs.YtfejjfbhlmjkeaaDoor.Reg
end Go.Proofs.YtfejjfbhlmjkeaaDoor.Reg
set_option linter.unusedVariables false
set_option linter.unusedSimpArgs false
namespace Go.Proofs.YtfejjfbhlmjkeaaDoor.C
open Go.RowKit Go.Proofs.YtfejjfbhlmjkeaaDoorW.PrintWords Go.Proofs.YtfejjfbhlmjkeaaDoorW.PrintLast Go.Proofs.YtfejjfbhlmjkeaaDoorW.PrintMore Go.Proofs.YtfejjfbhlmjkeaaDoor.B Go.Proofs.YtfejjfbhlmjkeaaDoor.Reg Go.Proofs.YtfejjfbhlmjkeaaDoor.PModelMore Go.Proofs.YtfejjfbhlmjkeaaDoor.CQ
/-- Grown behind, drawn on. -/
structure Bd (w w' : World) : Prop where
  below : Below w.heap.size w w'
  drawn : w.drawn ≤ w'.drawn
theorem Bd.refl (w : World) : Bd w w := ⟨Below.refl _ _, Nat.le_refl _⟩
theorem Bd.trans {a b c : World} (h : Bd a b) (k : Bd b c) : Bd a c := ⟨below_step h.below k.below, Nat.le_trans h.drawn k.drawn⟩
theorem Bd.drewN {a b : World} (h : Bd a b) (n : Nat) : Bd a (b.drewN n) := ⟨pw_below_drewN h.below n, Nat.le_trans h.drawn (Nat.le_add_right _ _)⟩
theorem Bd.drew {a b : World} (h : Bd a b) : Bd a (b.drewN 1) := h.drewN 1
theorem Bd.alloc {a b : World} (h : Bd a b) (o : Obj) : Bd a (b.alloc o) := ⟨below_alloc h.below o, h.drawn⟩
theorem Bd.cell {a b : World} {p : Addr} {v : Value} (h : Bd a b) (hc : a.cell? p = some v) : b.cell? p = some v := by
  refine (h.below.cell ?_).trans hc
  unfold World.cell? at hc
  rcases Nat.lt_or_ge p.block a.heap.size with hl | hl
  · exact hl
  · rw [Array.getElem?_eq_none hl] at hc; cases hc
theorem w64_in (x : Int) (h : -9223372036854775808 ≤ x ∧ x ≤ 9223372036854775807) : wrap64 x = x := by unfold wrap64; omega
theorem box1 (w : World) (o1 o2 : Obj) : ((w.alloc o1).alloc o2).heap[w.heap.size + 1]? = some o2 := by
  have := Go.heap_alloc_new (w.alloc o1) o2
  simpa using this
theorem box0 (w : World) (o1 o2 : Obj) : ((w.alloc o1).alloc o2).heap[w.heap.size]? = some o1 :=
  blk_alloc (Go.heap_alloc_new w o1) o2
theorem at47 {xs : List S78} {j : Nat} (h : j < xs.length) : rd_T78 xs (j : Int) = xs[j] := by
  unfold rd_T78
  rw [Int.toNat_natCast, List.getD_eq_getElem?_getD, List.getElem?_eq_getElem h]
  rfl
/-- An entry as it is handed over: its time, its labels (where they lie, and what they are), its line. -/
structure Ent where
  at_ : Int
  A : Option Addr
  c : Nat
  ls : List S78
  line : ByteArray
/-- What an entry is. -/
structure Key where
  at_ : Int
  ls : List S78
  line : ByteArray
def Ent.key (x : Ent) : Key := ⟨x.at_, x.ls, x.line⟩
def Ent.cells (x : Ent) : List Value := [.int .i64 x.at_, .slice x.A x.ls.length x.c, .string x.line]
def Ent.val (x : Ent) : Value := .agg #[.int .i64 x.at_, .slice x.A x.ls.length x.c, .string x.line]
/-- Its labels lie there. -/
structure Ent.In (x : Ent) (w : World) : Prop where
  lies : Kd.C k78 w x.A x.ls.length x.ls
  cap : x.ls.length ≤ x.c
  few : x.ls.length ≤ 100000
end Go.Proofs.YtfejjfbhlmjkeaaDoor.C
end
section
namespace Go.Proofs.YtfejjfbhlmjkeaaDoor.B
end Go.Proofs.YtfejjfbhlmjkeaaDoor.B
namespace Go.Proofs.YtfejjfbhlmjkeaaDoor.CQ
end Go.Proofs.YtfejjfbhlmjkeaaDoor.CQ
namespace Go.Proofs.YtfejjfbhlmjkeaaDoor.PModelMore
end Go.Proofs.YtfejjfbhlmjkeaaDoor.PModelMore
namespace Go.Proofs.YtfejjfbhlmjkeaaDoor.Reg
end Go.Proofs.YtfejjfbhlmjkeaaDoor.Reg
set_option linter.unusedVariables false
set_option linter.unusedSimpArgs false
namespace Go.Proofs.YtfejjfbhlmjkeaaDoor.C
open Go.RowKit Go.Proofs.YtfejjfbhlmjkeaaDoorW.PrintWords Go.Proofs.YtfejjfbhlmjkeaaDoorW.PrintLast Go.Proofs.YtfejjfbhlmjkeaaDoorW.PrintMore Go.Proofs.YtfejjfbhlmjkeaaDoor.B Go.Proofs.YtfejjfbhlmjkeaaDoor.Reg Go.Proofs.YtfejjfbhlmjkeaaDoor.PModelMore Go.Proofs.YtfejjfbhlmjkeaaDoor.CQ
/-- An entry that lies in w. -/
def EntIn (w : World) := {x : Ent // x.In w}
def Ent.zero : Ent := ⟨0, none, 0, [], ⟨#[]⟩⟩
theorem zero_in (w : World) : Ent.zero.In w := ⟨⟨rfl, Nat.zero_le _, fun h => absurd h (Nat.lt_irrefl 0)⟩, Nat.le_refl _, Nat.zero_le _⟩
instance (w : World) : Inhabited (EntIn w) := ⟨⟨Ent.zero, zero_in w⟩⟩
def enc {w : World} (x : EntIn w) : List Value := x.1.cells
section
variable {α : Type} [Inhabited α] (eq : α → α → Bool) (d : Array α)
/-- The first m ones, each run of the same but once. -/
def once : Nat → List α
  | 0 => []
  | m + 1 => if m ≠ 0 ∧ eq d[m]! d[m - 1]! = true then once m else once m ++ [d[m]!]
structure OnceInv (m kk : Nat) (dk : Array α) : Prop where
  len : (once eq d m).length = kk
  lt : kk < m
  size : dk.size = d.size
  low : ∀ i, i < kk → dk[i]! = (once eq d m)[i]!
  high : ∀ i, kk ≤ i → dk[i]! = d[i]!
variable {eq d}
theorem OnceInv.skip {m kk : Nat} {dk : Array α} (h : OnceInv eq d m kk dk) (h0 : m ≠ 0) (hm : eq d[m]! d[m - 1]! = true) : OnceInv eq d (m + 1) kk dk := by
  have e : once eq d (m + 1) = once eq d m := by simp only [once]; rw [if_pos ⟨h0, hm⟩]
  exact ⟨by rw [e]; exact h.len, by have := h.lt; omega, h.size, by rw [e]; exact h.low, h.high⟩
theorem OnceInv.keep {m kk : Nat} {dk : Array α} (h : OnceInv eq d m kk dk) (hlt : m < d.size) (hm : eq d[m]! d[m - 1]! = false) : OnceInv eq d (m + 1) (kk + 1) (dk.setIfInBounds kk d[m]!) := by
  have e : once eq d (m + 1) = once eq d m ++ [d[m]!] := by simp only [once]; rw [if_neg (by rintro ⟨_, h1⟩; rw [hm] at h1; cases h1)]
  have hl := h.len
  have hlt' := h.lt
  have hs := h.size
  refine ⟨by rw [e, List.length_append, hl]; rfl, by omega, by simpa using hs, fun i hi => ?_, fun i hi => ?_⟩
  · rw [e, List.getElem!_eq_getElem?_getD, getElem!_def, Array.getElem?_setIfInBounds]
    by_cases hik : kk = i
    · subst hik
      rw [if_pos rfl, if_pos (by omega), List.getElem?_append_right (by omega), hl, Nat.sub_self]
      rfl
    · rw [if_neg hik, List.getElem?_append_left (by omega)]
      have := h.low i (by omega)
      rw [List.getElem!_eq_getElem?_getD, getElem!_def] at this
      exact this
  · rw [getElem!_def, Array.getElem?_setIfInBounds, if_neg (by omega), ← getElem!_def]
    exact h.high i (by omega)
end
end Go.Proofs.YtfejjfbhlmjkeaaDoor.C
end
