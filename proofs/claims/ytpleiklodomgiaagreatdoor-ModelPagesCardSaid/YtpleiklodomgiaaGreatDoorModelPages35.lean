import Derived.Lib.ItoaNum
import Derived.OwnWalk
import Derived.LoopTactic
import Derived.WalkKit
import Derived.KernelRfl
import Derived.OpenShut
import Derived.Laws.RangeString
import Derived.Laws.StructEq
import Derived.Test.YtpleiklodomgiaaGreatDoorModelPages2
import Derived.Test.YtpleiklodomgiaaGreatDoorModelPages3
import Derived.Test.YtpleiklodomgiaaGreatDoorModelPages4
import Derived.Test.YtpleiklodomgiaaGreatDoorModelPages5
import Derived.Test.YtpleiklodomgiaaGreatDoorModelPages6
import Derived.Test.YtpleiklodomgiaaGreatDoorModelPages9
import Derived.Test.YtpleiklodomgiaaGreatDoorModelPages10
import Derived.Test.YtpleiklodomgiaaGreatDoorModelPages11
import Derived.Test.YtpleiklodomgiaaGreatDoorModelPages12
import Derived.Test.YtpleiklodomgiaaGreatDoorModelPages14
import Derived.Test.YtpleiklodomgiaaGreatDoorModelPages7
import Derived.Test.YtpleiklodomgiaaGreatDoorModelPages17
import Derived.Test.YtpleiklodomgiaaGreatDoorModelPages18
import Derived.Test.YtpleiklodomgiaaGreatDoorModelPages19
import Derived.Test.YtpleiklodomgiaaGreatDoorModelPages20
import Derived.Test.YtpleiklodomgiaaGreatDoorModelPages34
set_option linter.unusedVariables false
set_option linter.unusedSimpArgs false
section
namespace Go.Proofs.YtpleiklodomgiaaGreatDoor.B
end Go.Proofs.YtpleiklodomgiaaGreatDoor.B
namespace Go.Proofs.YtpleiklodomgiaaGreatDoor.CQ
end Go.Proofs.YtpleiklodomgiaaGreatDoor.CQ
namespace Go.Proofs.YtpleiklodomgiaaGreatDoor.PModelIs
end Go.Proofs.YtpleiklodomgiaaGreatDoor.PModelIs
namespace Go.Proofs.YtpleiklodomgiaaGreatDoor.C
open Go.RowKit Go.ChangeShapes Go.WideShapes Go.Deep Go.Proofs.YtpleiklodomgiaaGreatDoorW.PrintWords Go.Proofs.YtpleiklodomgiaaGreatDoorW.PrintLast Go.Proofs.YtpleiklodomgiaaGreatDoorW.PrintMore Go.Proofs.YtpleiklodomgiaaGreatDoor.B Go.Proofs.YtpleiklodomgiaaGreatDoor.PModelIs Go.Proofs.YtpleiklodomgiaaGreatDoor.CQ
instance : Inhabited S54 := ⟨z54⟩
structure Ent.Raw (x : Ent) (w : World) : Prop where
 lies : Kd.C k54 w x.A x.ls.length x.ls
 cap : x.ls.length ≤ x.c
 time : -9223372036854775808 ≤ x.at_ ∧ x.at_ ≤ 9223372036854775807
theorem Ent.Raw.below {x : Ent} {w w' : World} (h : x.Raw w) (k : Below w.heap.size w w') : x.Raw w' := ⟨Kd.C_below h.lies k, h.cap, h.time⟩
theorem Ent.Raw.in_ {x : Ent} {w : World} (h : x.Raw w) (k : x.ls.length ≤ 100000) : x.In w := ⟨h.lies, h.cap, k⟩
theorem int_of_i64 {a : Int} (h : (Lit.int .i64 a).wf = true) : -9223372036854775808 ≤ a ∧ a ≤ 9223372036854775807 := by
 simp [Lit.wf, IntKind.min, IntKind.max, IntKind.bits, IntKind.signed] at h
 omega
section
variable {H : Type} {enc : TypeId × Value → H} {w : World} {base : Nat} {spare : Nat → Bool} {held : Bool}
theorem open_labels {fuel : Nat} {cs : List Value} {x : DataW H × List MemPlace} (h : DataW.trod enc Tryz.prog w base spare held fuel 24 cs = some x) :
  ∃ (A : Option Addr) (cap : Nat) (xs : List S54), cs = [.slice A xs.length cap] ∧ Kd.C k54 w A xs.length xs ∧ xs.length ≤ cap := by
 obtain ⟨A, len, cap, rfl, hl, hm, hnil, hel⟩ := Op.open_rows Tryz.underlying24 Tryz.underlying54 (by kernel_rfl) (by kernel_rfl) h
 cases A with
 | none =>
  obtain rfl := hnil rfl
  exact ⟨none, cap, [], rfl, ⟨rfl, Nat.zero_le _, fun h => absurd h (Nat.lt_irrefl 0)⟩, Nat.zero_le _⟩
 | some a =>
  obtain ⟨xs, rfl, hxs⟩ := Op.list_of (α := S54) (n := len) (p := fun i x => w.cell? ((a.add (i * 2)).add 0) = some (.string x.f0) ∧ w.cell? ((a.add (i * 2)).add 1) = some (.string x.f1)) (fun i hi => by
   obtain ⟨v0, n0, y0, c0, t0⟩ := hel a rfl i hi 0 _ rfl
   obtain ⟨v1, n1, y1, c1, t1⟩ := hel a rfl i hi 1 _ rfl
   obtain ⟨z0, e0, -, -⟩ := Go.DataW.trod_string Tryz.underlying9 t0
   obtain ⟨z1, e1, -, -⟩ := Go.DataW.trod_string Tryz.underlying9 t1
   injection e0 with e0
   injection e1 with e1
   subst e0 e1
   exact ⟨⟨z0, z1⟩, c0, c1⟩)
  refine ⟨some a, cap, xs, rfl, ⟨rfl, Nat.le_trans hl (Nat.le_trans hm (by decide)), fun _ => ⟨a, rfl, fun j x hx => ⟨_, rfl, k54_mk w x, fun i u hu => ?_⟩⟩⟩, hl⟩
  have hj : j < xs.length := by
   rcases Nat.lt_or_ge j xs.length with h1 | h1
   ·exact h1
   ·rw [List.getElem?_eq_none h1] at hx; cases hx
  have h2 := hxs j hj
  rw [List.getElem?_eq_getElem hj] at hx
  have hx' := Option.some.inj hx
  rw [hx'] at h2
  have e : a.add (j * k54.sz + i) = (a.add (j * 2)).add i := (Go.Addr.add_add a (j * 2) i).symm
  rw [e]
  match i, hu with
  | 0, hu => rw [← hu]; exact h2.1
  | 1, hu => rw [← hu]; exact h2.2
end
def bigL (x : S54) : Bool := decide (200 < x.f0.size) || decide (200 < x.f1.size)
def greatB (k : Key) : Bool := decide (20 < k.ls.length) || (decide (1000 < k.line.size) || k.ls.any bigL)
theorem great_l (xs : List S54) (hm : xs.length ≤ 20) : ∀ (k i : Nat), xs.length - i < k → i ≤ xs.length → magpieref04_Great.l0 k xs (xs.length : Int) (i : Int) = some ((xs.drop i).any bigL)
 | 0, i, h, hi => by omega
 | k + 1, i, h, hi => by
  rw [magpieref04_Great.l0]
  by_cases hlt : i < xs.length
  ·have ih := great_l xs hm k (i + 1) (by omega) (by omega)
   rw [if_pos (by omega), if_pos (by omega), if_pos (by omega), at47 hlt, w64_in _ (by omega), List.drop_eq_getElem_cons hlt, List.any_cons]
   rw [show ((i : Int) + 1) = ((i + 1 : Nat) : Int) by omega, ih]
   unfold bigL
   split
   ·rename_i h1
    rw [decide_eq_true (show 200 < xs[i].f0.size by omega)]; rfl
   ·rename_i h1
    rw [decide_eq_false (show ¬ 200 < xs[i].f0.size by omega)]
    split
    ·rename_i h2
     rw [decide_eq_true (show 200 < xs[i].f1.size by omega)]; rfl
    ·rename_i h2
     rw [decide_eq_false (show ¬ 200 < xs[i].f1.size by omega)]; rfl
  ·rw [if_neg (by omega), List.drop_eq_nil_of_le (by omega)]; rfl
theorem great_f (k : Key) : magpieref04_Great.f 30 k.at_ k.ls k.line = some (greatB k) := by
 unfold magpieref04_Great.f greatB
 by_cases h : 20 < k.ls.length
 ·rw [if_pos (by omega), decide_eq_true h, Bool.true_or, magpieref04_Great.j0, if_pos rfl]
 ·rw [if_neg (by omega), decide_eq_false h, Bool.false_or, magpieref04_Great.j0]
  by_cases h2 : 1000 < k.line.size
  ·rw [if_pos (decide_eq_true (by omega)), decide_eq_true h2, Bool.true_or]
  ·rw [if_neg (by simp; omega), decide_eq_false h2, Bool.false_or]
   have := great_l k.ls (by omega) 29 0 (by omega) (by omega)
   rw [List.drop_zero] at this
   exact this
theorem great_any (x : Ent) (w : World) (h : x.Raw w) : Calls Tryz.prog 7 #[x.val] w fun e w' => e = .returned (.bool (greatB x.key)) ∧ Below w.heap.size w w' :=
 magpieref04_Great.calls 30 x.at_ x.A x.c x.ls x.line _ w h.lies h.cap (great_f x.key)
end Go.Proofs.YtpleiklodomgiaaGreatDoor.C
end
section
namespace Go.Proofs.YtpleiklodomgiaaGreatDoor.C
open Go.RowKit Go.Proofs.YtpleiklodomgiaaGreatDoorW.PrintWords Go.Proofs.YtpleiklodomgiaaGreatDoor.PModelIs Go.Proofs.YtpleiklodomgiaaGreatDoor.CQ
theorem great_few {k : Key} (h : greatB k = false) : k.ls.length ≤ 20 ∧ k.line.size ≤ 1000 ∧ ∀ x ∈ k.ls, x.f0.size ≤ 200 ∧ x.f1.size ≤ 200 := by
 unfold greatB at h
 simp only [Bool.or_eq_false_iff, decide_eq_false_iff_not] at h
 obtain ⟨h1, h2, h3⟩ := h
 refine ⟨by omega, by omega, fun x hx => ?_⟩
 have h4 := List.any_eq_false.1 h3 x hx
 unfold bigL at h4
 simp only [Bool.or_eq_true, decide_eq_true_eq, not_or] at h4
 omega
end Go.Proofs.YtpleiklodomgiaaGreatDoor.C
end
section
namespace Go.Proofs.YtpleiklodomgiaaGreatDoor.C
open Go.RowKit Go.Sort Go.Proofs.YtpleiklodomgiaaGreatDoorW.PrintWords Go.Proofs.YtpleiklodomgiaaGreatDoorW.PrintLast Go.Proofs.YtpleiklodomgiaaGreatDoorW.PrintMore Go.Proofs.YtpleiklodomgiaaGreatDoor.B Go.Proofs.YtpleiklodomgiaaGreatDoor.PModelIs Go.Proofs.YtpleiklodomgiaaGreatDoor.CQ
def BoxE (w : World) (j : Nat) (x : Ent) : Prop := w.heap[j]? = some (.cells #[.int .i64 x.at_, .slice x.A x.ls.length x.c, .string x.line] 26)
theorem BoxE.below {w w' : World} {j : Nat} {x : Ent} (h : BoxE w j x) (k : Below w.heap.size w w') : BoxE w' j x := heap_below k h
theorem BoxE.c0 {w : World} {j : Nat} {x : Ent} (h : BoxE w j x) : w.cell? ⟨j, 0, none⟩ = some (.int .i64 x.at_) := blk_cell h 0
theorem BoxE.c1 {w : World} {j : Nat} {x : Ent} (h : BoxE w j x) : w.cell? ⟨j, 1, none⟩ = some (.slice x.A x.ls.length x.c) := blk_cell h 1
theorem BoxE.c2 {w : World} {j : Nat} {x : Ent} (h : BoxE w j x) : w.cell? ⟨j, 2, none⟩ = some (.string x.line) := blk_cell h 2
theorem BoxE.lt {w : World} {j : Nat} {x : Ent} (h : BoxE w j x) : j < w.heap.size := blk_lt h
end Go.Proofs.YtpleiklodomgiaaGreatDoor.C
end
section
namespace Go.Proofs.YtpleiklodomgiaaGreatDoor.C
open Go.RowKit Go.ChangeShapes Go.WideShapes Go.Deep Go.Proofs.YtpleiklodomgiaaGreatDoorW.PrintWords Go.Proofs.YtpleiklodomgiaaGreatDoorW.PrintLast Go.Proofs.YtpleiklodomgiaaGreatDoorW.PrintMore Go.Proofs.YtpleiklodomgiaaGreatDoor.B Go.Proofs.YtpleiklodomgiaaGreatDoor.PModelIs Go.Proofs.YtpleiklodomgiaaGreatDoor.CQ
structure EntAt (w : World) (a : Addr) (x : Ent) : Prop where
 c0 : w.cell? a = some (.int .i64 x.at_)
 c1 : w.cell? ⟨a.block, a.off + 1, none⟩ = some (.slice x.A x.ls.length x.c)
 c2 : w.cell? ⟨a.block, a.off + 2, none⟩ = some (.string x.line)
 raw : x.Raw w
theorem EntAt.below {w w' : World} {a : Addr} {x : Ent} (h : EntAt w a x) (hb : Below w.heap.size w w') : EntAt w' a x := ⟨pw_cell_below hb h.c0, pw_cell_below hb h.c1, pw_cell_below hb h.c2, h.raw.below hb⟩
structure Ents (w : World) (A : Option Addr) (cap : Nat) (xs : List Ent) : Prop where
 room : xs.length ≤ cap
 most : cap ≤ maxLen
 nil : A = none → xs = []
 at_ : ∀ a, A = some a → ∀ i (hi : i < xs.length), EntAt w (a.add (i * 3)) xs[i]
theorem Ents.below {w w' : World} {A : Option Addr} {cap : Nat} {xs : List Ent} (h : Ents w A cap xs) (hb : Below w.heap.size w w') : Ents w' A cap xs := ⟨h.room, h.most, h.nil, fun a ha i hi => (h.at_ a ha i hi).below hb⟩
theorem Ents.some {w : World} {A : Option Addr} {cap : Nat} {xs : List Ent} {i : Nat} (h : Ents w A cap xs) (hi : i < xs.length) : ∃ a, A = some a := by
 cases A with
 | none => rw [h.nil rfl] at hi; simp at hi
 | some a => exact ⟨a, rfl⟩
instance : Inhabited Ent := ⟨⟨0, none, 0, [], ⟨#[]⟩⟩⟩
section
variable {H : Type} {enc : TypeId × Value → H} {w : World} {base : Nat} {spare : Nat → Bool} {held : Bool}
theorem open_entries {fuel : Nat} {cs : List Value} {x : DataW H × List MemPlace} (h : DataW.trod enc Tryz.prog w base spare held fuel 39 cs = some x) :
  ∃ (A : Option Addr) (cap : Nat) (xs : List Ent), cs = [.slice A xs.length cap] ∧ Ents w A cap xs := by
 obtain ⟨A, len, cap, rfl, hl, hm, hnil, hel⟩ := Op.open_rows Tryz.underlying39 Tryz.underlying26 (by kernel_rfl) (by kernel_rfl) h
 cases A with
 | none =>
  obtain rfl := hnil rfl
  exact ⟨none, cap, [], rfl, Nat.zero_le _, hm, fun _ => rfl, fun a h => (by cases h)⟩
 | some a =>
  obtain ⟨xs, rfl, hxs⟩ := Op.list_of (α := Ent) (n := len) (p := fun i x => EntAt w (a.add (i * 3)) x) (fun i hi => by
   obtain ⟨v0, n0, y0, c0, t0⟩ := hel a rfl i hi 0 _ rfl
   obtain ⟨v1, n1, y1, c1, t1⟩ := hel a rfl i hi 1 _ rfl
   obtain ⟨v2, n2, y2, c2, t2⟩ := hel a rfl i hi 2 _ rfl
   obtain ⟨z0, e0, -, w0⟩ := Go.DataW.trod_int Tryz.underlying3 t0
   obtain ⟨B, cp, zs, e1, hK, hl2⟩ := open_labels t1
   obtain ⟨z2, e2, -, -⟩ := Go.DataW.trod_string Tryz.underlying9 t2
   injection e0 with e0
   injection e1 with e1
   injection e2 with e2
   subst e0 e1 e2
   exact ⟨⟨z0, B, cp, zs, z2⟩, c0, c1, c2, hK, hl2, int_of_i64 w0⟩)
  refine ⟨some a, cap, xs, rfl, hl, hm, fun h => (by cases h), fun a' h i hi => ?_⟩
  cases h
  exact hxs i hi
end
def manyB (xs : List Ent) (most : Int) : Bool := decide (most < (xs.length : Int)) || xs.any fun x => greatB x.key
set_option maxRecDepth 20000 in
set_option maxHeartbeats 2000000 in
theorem many_any (A : Option Addr) (cap : Nat) (xs : List Ent) (most : Int) (w : World) (hE : Ents w A cap xs) :
  Calls Tryz.prog 17 #[.slice A xs.length cap, .int .i64 most] w fun e w' => e = .returned (.bool (manyB xs most)) ∧ Below w.heap.size w w' := by
 have HE := Aside0.mk hE
 unfold manyB
 have hcl := hE.room
 have hcm := hE.most
 have HN : Aside0 (xs.length ≤ 9223372036854775807) := ⟨by have h1 := hE.room; have h2 := hE.most; simp only [maxLen] at h2; omega⟩
 clear hE
 by_cases hm : most < (xs.length : Int)
 ·rw [decide_eq_true hm, Bool.true_or]
  go_enter Tryz.func17, Tryz.ntmps17
  go_wp2_with fail
  go_ret
  exact ⟨rfl, Below.refl _ _⟩
 ·rw [decide_eq_false hm, Bool.false_or]
  have c0 : decide (most < (xs.length : Int)) = false := decide_eq_false hm
  clear hm
  go_enter Tryz.func17, Tryz.ntmps17
  go_wp2_with fail
  clear c0
  go_loopw [13] (fun t13 wr => ∃ (i : Nat), i ≤ xs.length ∧ t13 = .int .i64 (i : Int) ∧ Aside0 (Below w.heap.size w wr) ∧ Aside0 ((xs.any fun x => greatB x.key) = ((xs.drop i).any fun x => greatB x.key))) (fun t13 _ => xs.length - (intOf t13).toNat)
  case atStart => exact ⟨0, Nat.zero_le _, rfl, ⟨Below.refl _ _⟩, ⟨rfl⟩⟩
  case round =>
   obtain ⟨i, hi, rfl, HB, HD⟩ := hrel
   by_cases hlt : i < xs.length
   ·obtain ⟨a, rfl⟩ := HE.out.some hlt
    have HX := Aside0.mk ((HE.out.at_ a rfl i hlt).below HB.out)
    obtain ⟨x, hx⟩ : ∃ x, x = xs[i] := ⟨_, rfl⟩
    rw [← hx] at HX
    have HD2 : Aside0 ((xs.any fun x => greatB x.key) = (greatB x.key || (xs.drop (i + 1)).any fun x => greatB x.key)) := ⟨by rw [HD.out, List.drop_eq_getElem_cons hlt, List.any_cons, hx]⟩
    obtain ⟨W, hW⟩ : ∃ W, W = wr.alloc (.cells #[.int .i64 x.at_, .slice x.A x.ls.length x.c, .string x.line] 26) := ⟨_, rfl⟩
    obtain ⟨j, hj⟩ : ∃ j, j = wr.heap.size := ⟨_, rfl⟩
    have hb0 : Below wr.heap.size wr W := by rw [hW]; exact below_alloc (Below.refl _ _) _
    have XA : Aside0 (BoxE W j x) := ⟨by rw [hW, hj]; exact Go.heap_alloc_new _ _⟩
    obtain ⟨gr, hgr⟩ : ∃ g, g = greatB x.key := ⟨_, rfl⟩
    have HG : Aside0 (Calls Tryz.prog 7 #[x.val] W fun e w' => e = .returned (.bool gr) ∧ Below W.heap.size W w') := ⟨by rw [hgr]; exact great_any x W (HX.out.raw.below hb0)⟩
    rw [← hgr] at HD2
    have k0 := HX.out.c0
    have k1 := HX.out.c1
    have k2 := HX.out.c2
    have HB := Aside0.mk (below_step HB.out hb0)
    have HWd := Aside0.mk hW
    have HJd := Aside0.mk hj
    have Hlt := Aside0.mk hlt
    unfold Ent.val at HG
    clear hx hW hj hgr HX hb0 HD
    go_wp2_with fail
    try rw [← HWd.out]
    try rw [← HJd.out]
    clear k0 k1 k2
    have a0 : W.cell? _ = _ := XA.out.c0
    have a1 : W.cell? _ = _ := XA.out.c1
    have a2 : W.cell? _ = _ := XA.out.c2
    ((refine (HG.out).mono ?_); rintro e w2 ⟨rfl, hb2⟩)
    have HB := Aside0.mk (below_step HB.out hb2)
    clear a0 a1 a2 HG hb2 XA
    cases gr with
    | true =>
     go_wp2
     go_ret
     exact ⟨by rw [HD2.out]; rfl, HB.out⟩
    | false =>
     rw [Bool.false_or] at HD2
     go_wp2
     go_roundw
     case rel => exact ⟨i + 1, by have := Hlt.out; omega, by rw [w64_in _ (by have := Hlt.out; have := HN.out; omega)]; rfl, HB, HD2⟩
     case measure => have h1 := Hlt.out; have h2 := HN.out; rw [w64_in _ (by omega)]; simp [intOf]; omega
   ·obtain rfl : i = xs.length := by omega
    go_wp2
    go_ret
    exact ⟨by rw [HD.out, List.drop_length]; rfl, HB.out⟩
end Go.Proofs.YtpleiklodomgiaaGreatDoor.C
end
section
namespace Go.Proofs.YtpleiklodomgiaaGreatDoor.Bt
end Go.Proofs.YtpleiklodomgiaaGreatDoor.Bt
namespace Go.Proofs.YtpleiklodomgiaaGreatDoor.N
end Go.Proofs.YtpleiklodomgiaaGreatDoor.N
namespace Go.Proofs.YtpleiklodomgiaaGreatDoor.Reg
end Go.Proofs.YtpleiklodomgiaaGreatDoor.Reg
namespace Go.Proofs.YtpleiklodomgiaaGreatDoor.Vi
end Go.Proofs.YtpleiklodomgiaaGreatDoor.Vi
namespace Go.Proofs.YtpleiklodomgiaaGreatDoor.C
open Go.RowKit Go.Proofs.YtpleiklodomgiaaGreatDoorW.PrintWords Go.Proofs.YtpleiklodomgiaaGreatDoorW.PrintLast Go.Proofs.YtpleiklodomgiaaGreatDoorW.PrintMore Go.Proofs.YtpleiklodomgiaaGreatDoor.B Go.Proofs.YtpleiklodomgiaaGreatDoor.Reg Go.Proofs.YtpleiklodomgiaaGreatDoor.PModelIs Go.Proofs.YtpleiklodomgiaaGreatDoor.CQ Go.Proofs.YtpleiklodomgiaaGreatDoor.Vi Go.Proofs.YtpleiklodomgiaaGreatDoor.N Go.Proofs.YtpleiklodomgiaaGreatDoor.Bt
def valueOf : List S54 → ByteArray → ByteArray × Bool
 | [], _ => (⟨#[]⟩, false)
 | x :: xs, n => if x.f0.toList = n.toList then (x.f1, true) else valueOf xs n
theorem refValue_l (n : ByteArray) (xs : List S54) (hm : xs.length ≤ 100000) : ∀ (k i : Nat), xs.length - i < k → i ≤ xs.length → magpieref04_Value.l0 k n xs (xs.length : Int) (i : Int) = some (valueOf (xs.drop i) n)
 | 0, i, h, hi => by omega
 | k + 1, i, h, hi => by
  rw [magpieref04_Value.l0]
  by_cases hlt : i < xs.length
  ·have ih := refValue_l n xs hm k (i + 1) (by omega) (by omega)
   rw [if_pos (by omega), if_pos (by omega), if_pos (by omega), at47 hlt, w64_in _ (by omega), List.drop_eq_getElem_cons hlt, valueOf]
   rw [show ((i : Int) + 1) = ((i + 1 : Nat) : Int) by omega, ih]
   split <;> rfl
  ·rw [if_neg (by omega), List.drop_eq_nil_of_le (by omega)]; rfl
end Go.Proofs.YtpleiklodomgiaaGreatDoor.C
end
section
namespace Go.Proofs.YtpleiklodomgiaaGreatDoor.C
open Go.RowKit Go.Proofs.YtpleiklodomgiaaGreatDoorW.PrintWords Go.Proofs.YtpleiklodomgiaaGreatDoorW.PrintLast Go.Proofs.YtpleiklodomgiaaGreatDoorW.PrintMore Go.Proofs.YtpleiklodomgiaaGreatDoor.B Go.Proofs.YtpleiklodomgiaaGreatDoor.PModelIs Go.Proofs.YtpleiklodomgiaaGreatDoor.CQ
theorem lab_at {w : World} {x : Ent} (h : x.In w) (i : Nat) (hi : i < x.ls.length) : ∃ a, x.A = some a ∧ w.cell? (a.add (i * 2)) = some (.string x.ls[i].f0) ∧ w.cell? ⟨(a.add (i * 2)).block, (a.add (i * 2)).off + 1, none⟩ = some (.string x.ls[i].f1) := by
 have h0 := at_T54 h.lies (i : Int) (by omega) (by omega)
 rw [at47 hi, Int.toNat_natCast] at h0
 exact h0
set_option maxRecDepth 20000 in
set_option maxHeartbeats 2000000 in
theorem value_hand (x : Ent) (n : ByteArray) (w : World) (hx : x.In w) (v : ByteArray) (is : Bool) (h : valueOf x.ls n = (v, is)) : Calls Tryz.prog 64 #[x.val, .string n] w fun e w' => e = .returned (.tuple #[.string v, .bool is]) ∧ Below w.heap.size w w' := by
 have HX0 := Aside0.mk hx
 have HN : Aside0 (x.ls.length ≤ 100000) := ⟨hx.few⟩
 have HV := Aside0.mk h
 clear hx h
 unfold Ent.val
 obtain ⟨W, hW⟩ : ∃ W, W = w.alloc (.cells #[.int .i64 x.at_, .slice x.A x.ls.length x.c, .string x.line] 26) := ⟨_, rfl⟩
 obtain ⟨j, hj⟩ : ∃ j, j = w.heap.size := ⟨_, rfl⟩
 have hb0 : Below w.heap.size w W := by rw [hW]; exact below_alloc (Below.refl _ _) _
 have XA : Aside0 (BoxE W j x) := ⟨by rw [hW, hj]; exact Go.heap_alloc_new _ _⟩
 have HX := Aside0.mk (HX0.out.lies)
 have HXW : Aside0 (x.In W) := ⟨⟨Kd.C_below HX0.out.lies hb0, HX0.out.cap, HX0.out.few⟩⟩
 have HB0 := Aside0.mk hb0
 have HWd := Aside0.mk hW
 have HJd := Aside0.mk hj
 clear hb0 hW hj HX HX0
 go_enter Tryz.func64, Tryz.ntmps64
 go_wp2_with fail
 try rw [← HWd.out]
 try rw [← HJd.out]
 have a1 : W.cell? _ = _ := XA.out.c1
 go_wp2_with fail
 clear a1
 go_loopw [11] (fun t11 wr => ∃ (i : Nat), i ≤ x.ls.length ∧ t11 = .int .i64 (i : Int) ∧ Aside0 (Below W.heap.size W wr) ∧ Aside0 (valueOf (x.ls.drop i) n = (v, is))) (fun t11 _ => x.ls.length - (intOf t11).toNat)
 case atStart => exact ⟨0, Nat.zero_le _, rfl, ⟨Below.refl _ _⟩, ⟨by rw [List.drop_zero]; exact HV.out⟩⟩
 case round =>
  obtain ⟨i, hi, rfl, HB, HD⟩ := hrel
  by_cases hlt : i < x.ls.length
  ·obtain ⟨a, hA, k0, k1⟩ := lab_at (⟨Kd.C_below HXW.out.lies HB.out, HXW.out.cap, HXW.out.few⟩ : x.In wr) i hlt
   rw [hA]
   obtain ⟨f0, hf0⟩ : ∃ f, f = x.ls[i].f0 := ⟨_, rfl⟩
   obtain ⟨f1, hf1⟩ : ∃ f, f = x.ls[i].f1 := ⟨_, rfl⟩
   rw [← hf0] at k0
   rw [← hf1] at k1
   have HD2 : Aside0 ((if f0.toList = n.toList then (f1, true) else valueOf (x.ls.drop (i + 1)) n) = (v, is)) := ⟨by
    have := HD.out
    rw [List.drop_eq_getElem_cons hlt, valueOf, ← hf0, ← hf1] at this
    exact this⟩
   have Hlt := Aside0.mk hlt
   have HAA := Aside0.mk hA
   by_cases he : f0.toList = n.toList
   ·have e0 : (f0.toList == n.toList) = true := by simpa using he
    have HD3 : Aside0 (f1 = v ∧ true = is) := ⟨by have := HD2.out; rw [if_pos he] at this; exact Prod.mk.inj this⟩
    clear he hf0 hf1 HD HD2 hA
    go_wp2
    obtain ⟨hv, his⟩ := HD3.out
    subst hv his
    go_ret2
    exact ⟨rfl, below_step HB0.out (below_step HB.out (below_alloc (Below.refl _ wr) _))⟩
   ·have e0 : (f0.toList == n.toList) = false := by simpa using he
    have HD3 : Aside0 (valueOf (x.ls.drop (i + 1)) n = (v, is)) := ⟨by have := HD2.out; rw [if_neg he] at this; exact this⟩
    clear he hf0 hf1 HD HD2 hA
    go_wp2
    go_roundw
    case rel => exact ⟨i + 1, by have := Hlt.out; omega, by rw [w64_in _ (by have := Hlt.out; have := HN.out; omega)]; rfl, ⟨below_alloc HB.out _⟩, HD3⟩
    case measure => have h1 := Hlt.out; have h2 := HN.out; rw [w64_in _ (by omega)]; simp [intOf]; omega
  ·obtain rfl : i = x.ls.length := by omega
   have HD3 : Aside0 ((⟨#[]⟩ : ByteArray) = v ∧ false = is) := ⟨by have := HD.out; rw [List.drop_length, valueOf] at this; exact Prod.mk.inj this⟩
   clear HD
   go_wp2
   obtain ⟨hv, his⟩ := HD3.out
   subst hv his
   go_ret2
   exact ⟨rfl, below_step HB0.out HB.out⟩
def labelB (nm : ByteArray) (no : Bool) (va : ByteArray) (x : Ent) : Bool := ((valueOf x.ls nm).1.toList == va.toList) != no
set_option maxRecDepth 20000 in
set_option maxHeartbeats 2000000 in
theorem label_hand (nm va : ByteArray) (no : Bool) (x : Ent) (w : World) (hx : x.In w) : Calls Tryz.prog 47 #[.agg #[.string nm, .bool no, .string va], x.val] w fun e w' => e = .returned (.bool (labelB nm no va x)) ∧ Below w.heap.size w w' := by
 obtain ⟨v, is, hv⟩ : ∃ v is, valueOf x.ls nm = (v, is) := ⟨_, _, rfl⟩
 unfold labelB
 rw [hv]
 dsimp only
 have HV : Aside0 (∀ W, Below w.heap.size w W → Calls Tryz.prog 64 #[x.val, .string nm] W fun e w' => e = .returned (.tuple #[.string v, .bool is]) ∧ Below W.heap.size W w') := ⟨fun W h => value_hand x nm W ⟨Kd.C_below hx.lies h, hx.cap, hx.few⟩ v is hv⟩
 clear hv hx
 unfold Ent.val at HV ⊢
 obtain ⟨q, hq⟩ : ∃ q, q = (v.toList == va.toList) := ⟨_, rfl⟩
 rw [← hq]
 have e0 : (v.toList == va.toList) = q := hq.symm
 clear hq
 go_enter Tryz.func47, Tryz.ntmps47
 go_wp2_with fail
 have hbb := below_alloc (below_alloc (Below.refl _ w) (.cells #[.string nm, .bool no, .string va] 61)) (.cells #[.int .i64 x.at_, .slice x.A x.ls.length x.c, .string x.line] 26)
 have HBb := Aside0.mk hbb
 clear hbb
 have K0 : Aside0 (((w.alloc (.cells #[.string nm, .bool no, .string va] 61)).alloc (.cells #[.int .i64 x.at_, .slice x.A x.ls.length x.c, .string x.line] 26)).heap[w.heap.size]? = some (.cells #[.string nm, .bool no, .string va] 61 (0, 0))) := ⟨box0 w _ _⟩
 ((refine (HV.out _ HBb.out).mono ?_); rintro e w1 ⟨rfl, hb1⟩)
 have HB1 := Aside0.mk (below_step HBb.out hb1)
 have HK := Aside0.mk (heap_below hb1 K0.out)
 have k0 := blk_cell HK.out 0
 have k1 := blk_cell HK.out 1
 have k2 := blk_cell HK.out 2
 have c0 : w1.cell? ⟨w.heap.size, 0, none⟩ = some (.string nm) := k0
 have c1 : w1.cell? ⟨w.heap.size, 1, none⟩ = some (.bool no) := k1
 have c2 : w1.cell? ⟨w.heap.size, 2, none⟩ = some (.string va) := k2
 clear hb1 HBb K0 HV k0 k1 k2
 go_wp2
 go_ret
 exact ⟨rfl, HB1.out⟩
end Go.Proofs.YtpleiklodomgiaaGreatDoor.C
end
section
namespace Go.Proofs.YtpleiklodomgiaaGreatDoor.C
open Go.RowKit Go.Sort Go.Proofs.YtpleiklodomgiaaGreatDoorW.PrintWords Go.Proofs.YtpleiklodomgiaaGreatDoorW.PrintLast Go.Proofs.YtpleiklodomgiaaGreatDoorW.PrintMore Go.Proofs.YtpleiklodomgiaaGreatDoor.B Go.Proofs.YtpleiklodomgiaaGreatDoor.PModelIs Go.Proofs.YtpleiklodomgiaaGreatDoor.CQ
def bef (a b : Key) : Bool := decide (cmpE a b = -1)
theorem less_c (x y : ByteArray) : Op.bytesLess x.toList y.toList = decide (cmpS x y = -1) := by
 rw [Bool.eq_iff_iff, decide_eq_true_iff, cmpS_m]
theorem eq_c (x y : ByteArray) : x.toList = y.toList ↔ cmpS x y = 0 := by
 rw [cmpS_c.eq0]
 exact ⟨toList_inj, fun h => by rw [h]⟩
def rest (xs ys : List S54) (la lb : ByteArray) : Int := if cmpR cmpN xs ys = 0 then cmpS la lb else cmpR cmpN xs ys
theorem before_l (at1 at2 : Int) (xs ys : List S54) (la lb : ByteArray) (hx : xs.length ≤ 100000) (hy : ys.length ≤ 100000) : ∀ (k i : Nat), 2 * (xs.length - i) + 2 ≤ k → i ≤ xs.length → i ≤ ys.length →
  magpieref04_Before.l0 k (i : Int) at1 xs la at2 ys lb = some (decide (rest (xs.drop i) (ys.drop i) la lb = -1))
 | 0, i, h, _, _ => by omega
 | 1, i, h, _, _ => by omega
 | k + 2, i, h, h1, h2 => by
  rw [magpieref04_Before.l0]
  by_cases hlt : i < xs.length
  ·rw [if_pos (by omega), magpieref04_Before.j1]
   by_cases hlt2 : i < ys.length
   ·have ih := before_l at1 at2 xs ys la lb hx hy k (i + 1) (by omega) (by omega) (by omega)
    rw [if_pos (decide_eq_true (by omega)), if_pos (by omega), if_pos (by omega), if_pos (by omega), at47 hlt, at47 hlt2, w64_in _ (by omega), show ((i : Int) + 1) = ((i + 1 : Nat) : Int) by omega, ih]
    have hr : rest (xs.drop i) (ys.drop i) la lb = if cmpN xs[i] ys[i] = 0 then rest (xs.drop (i + 1)) (ys.drop (i + 1)) la lb else cmpN xs[i] ys[i] := by
     unfold rest
     rw [cmpR_drop xs ys i hlt hlt2]
     by_cases h0 : cmpN xs[i] ys[i] = 0
     ·rw [if_pos h0, if_pos h0]
     ·rw [if_neg h0, if_neg h0, if_neg h0]
    rw [hr]
    unfold cmpN
    by_cases e0 : cmpS xs[i].f0 ys[i].f0 = 0
    ·rw [if_pos ((eq_c _ _).2 e0), if_pos e0]
     by_cases e1 : cmpS xs[i].f1 ys[i].f1 = 0
     ·rw [if_pos ((eq_c _ _).2 e1), if_pos e1]
     ·rw [if_neg (fun h => e1 ((eq_c _ _).1 h)), if_neg e1, less_c]
    ·rw [if_neg (fun h => e0 ((eq_c _ _).1 h)), if_neg e0, if_neg e0, less_c]
   ·rw [if_neg (by rw [decide_eq_true_iff]; omega), if_neg (by omega), decide_eq_false (show ¬ (xs.length : Int) < ys.length by omega)]
    have hr : rest (xs.drop i) (ys.drop i) la lb = 1 := by
     unfold rest
     rw [List.drop_eq_getElem_cons hlt, (List.drop_eq_nil_of_le (by omega) : ys.drop i = [])]
     rfl
    rw [hr]; rfl
  ·rw [if_neg (by omega), magpieref04_Before.j1, if_neg (by simp)]
   by_cases he : xs.length = ys.length
   ·rw [if_pos (by omega), less_c]
    unfold rest
    rw [(List.drop_eq_nil_of_le (by omega) : xs.drop i = []), (List.drop_eq_nil_of_le (by omega) : ys.drop i = [])]
    rfl
   ·rw [if_neg (by omega), decide_eq_true (show (xs.length : Int) < ys.length by omega)]
    have hr : rest (xs.drop i) (ys.drop i) la lb = -1 := by
     unfold rest
     rw [(List.drop_eq_nil_of_le (by omega) : xs.drop i = []), List.drop_eq_getElem_cons (show i < ys.length by omega)]
     rfl
    rw [hr]; rfl
theorem before_f (a b : Key) (hx : a.ls.length ≤ 100000) (hy : b.ls.length ≤ 100000) : magpieref04_Before.f 200002 a.at_ a.ls a.line b.at_ b.ls b.line = some (bef a b) := by
 unfold magpieref04_Before.f bef cmpE
 by_cases h : a.at_ = b.at_
 ·rw [if_pos h, if_pos ((cmpI_c.eq0 _ _).2 h)]
  exact before_l a.at_ b.at_ a.ls b.ls a.line b.line hx hy 200002 0 (by omega) (by omega) (by omega)
 ·rw [if_neg h, if_neg (fun e => h ((cmpI_c.eq0 _ _).1 e))]
  congr 1
  rw [Bool.eq_iff_iff, decide_eq_true_iff, decide_eq_true_iff]
  unfold cmpI
  split
  ·omega
  ·split <;> omega
theorem before_any (x y : Ent) (w : World) (hx : x.In w) (hy : y.In w) : Calls Tryz.prog 33 #[x.val, y.val] w fun e w' => e = .returned (.bool (bef x.key y.key)) ∧ Below w.heap.size w w' :=
 magpieref04_Before.calls 200002 x.at_ x.A x.c x.ls x.line y.at_ y.A y.c y.ls y.line _ w hx.lies hx.cap hy.lies hy.cap (before_f x.key y.key hx.few hy.few)
end Go.Proofs.YtpleiklodomgiaaGreatDoor.C
end
