import Derived.Test.YtpleiklodomgiaaGreatDoorModelPages38
import Derived.Test.YtpleiklodomgiaaGreatDoorModelPages39
import Derived.Test.YtpleiklodomgiaaGreatDoorModelPages37
import Derived.Test.YtpleiklodomgiaaGreatDoorModelPages35
set_option linter.unusedVariables false
set_option linter.unusedSimpArgs false
section
namespace Go.Proofs.YtpleiklodomgiaaGreatDoor.B
end Go.Proofs.YtpleiklodomgiaaGreatDoor.B
namespace Go.Proofs.YtpleiklodomgiaaGreatDoor.C
end Go.Proofs.YtpleiklodomgiaaGreatDoor.C
namespace Go.Proofs.YtpleiklodomgiaaGreatDoor.F
end Go.Proofs.YtpleiklodomgiaaGreatDoor.F
namespace Go.Proofs.YtpleiklodomgiaaGreatDoor.M
end Go.Proofs.YtpleiklodomgiaaGreatDoor.M
namespace Go.Proofs.YtpleiklodomgiaaGreatDoor.PModelIs
end Go.Proofs.YtpleiklodomgiaaGreatDoor.PModelIs
namespace Go.Proofs.YtpleiklodomgiaaGreatDoor.W
end Go.Proofs.YtpleiklodomgiaaGreatDoor.W
namespace Go.Proofs.YtpleiklodomgiaaGreatDoor.Q
open Go.RowKit Go.Shelf Go.Proofs.YtpleiklodomgiaaGreatDoorW.PrintWords Go.Proofs.YtpleiklodomgiaaGreatDoorW.PrintLast Go.Proofs.YtpleiklodomgiaaGreatDoorW.PrintMore Go.Proofs.YtpleiklodomgiaaGreatDoor.B Go.Proofs.YtpleiklodomgiaaGreatDoor.W Go.Proofs.YtpleiklodomgiaaGreatDoor.M Go.Proofs.YtpleiklodomgiaaGreatDoor.F Go.Proofs.YtpleiklodomgiaaGreatDoor.C Go.Proofs.YtpleiklodomgiaaGreatDoor.PModelIs
def qV (q : Qv) (A : Option Addr) (c : Nat) (A' : Option Addr) (c' : Nat) (page : ByteArray) : Value := .agg #[.int .i64 q.fr, .int .i64 q.till, .slice A q.ms.length c, .int .i64 q.T.f0, .string q.T.f1, .string q.T.f2, .slice A' q.T.f3.length c', .bool q.desc, .int .i64 q.lim, .string page]
def keepB (q : Qv) (x : Ent) : Bool := decide (q.fr ≤ x.at_) && (decide (x.at_ ≤ q.till) && (q.ms.all (mtB x) && lineV x.line 4 q.T))
set_option maxRecDepth 20000 in
set_option maxHeartbeats 2000000 in
theorem query_core (fr till at_ t0 lim : Int) (A A' xA : Option Addr) (n c m c' xn xc : Nat) (t1 t2 line page : ByteArray) (desc l k : Bool) (w : World)
  (hl : ∀ V, Below ((w.alloc (.cells #[.int .i64 fr, .int .i64 till, .slice A n c, .int .i64 t0, .string t1, .string t2, .slice A' m c', .bool desc, .int .i64 lim, .string page] 37)).alloc (.cells #[.int .i64 at_, .slice xA xn xc, .string line] 26)).heap.size ((w.alloc (.cells #[.int .i64 fr, .int .i64 till, .slice A n c, .int .i64 t0, .string t1, .string t2, .slice A' m c', .bool desc, .int .i64 lim, .string page] 37)).alloc (.cells #[.int .i64 at_, .slice xA xn xc, .string line] 26)) V → Calls Tryz.prog 34 #[.slice A n c, .agg #[.int .i64 at_, .slice xA xn xc, .string line]] V fun e w' => e = .returned (.bool l) ∧ Below V.heap.size V w')
  (hk : ∀ V, Below ((w.alloc (.cells #[.int .i64 fr, .int .i64 till, .slice A n c, .int .i64 t0, .string t1, .string t2, .slice A' m c', .bool desc, .int .i64 lim, .string page] 37)).alloc (.cells #[.int .i64 at_, .slice xA xn xc, .string line] 26)).heap.size ((w.alloc (.cells #[.int .i64 fr, .int .i64 till, .slice A n c, .int .i64 t0, .string t1, .string t2, .slice A' m c', .bool desc, .int .i64 lim, .string page] 37)).alloc (.cells #[.int .i64 at_, .slice xA xn xc, .string line] 26)) V → Calls Tryz.prog 35 #[.agg #[.int .i64 t0, .string t1, .string t2, .slice A' m c'], .string line] V fun e w' => e = .returned (.bool k) ∧ Below V.heap.size V w') :
  Calls Tryz.prog 23 #[.agg #[.int .i64 fr, .int .i64 till, .slice A n c, .int .i64 t0, .string t1, .string t2, .slice A' m c', .bool desc, .int .i64 lim, .string page], .agg #[.int .i64 at_, .slice xA xn xc, .string line]] w fun e w' => e = .returned (.bool (decide (fr ≤ at_) && (decide (at_ ≤ till) && (l && k)))) ∧ Below w.heap.size w w' := by
 have HL := Aside0.mk hl
 have HK := Aside0.mk hk
 have HB0 : Aside0 (Below w.heap.size w ((w.alloc (.cells #[.int .i64 fr, .int .i64 till, .slice A n c, .int .i64 t0, .string t1, .string t2, .slice A' m c', .bool desc, .int .i64 lim, .string page] 37)).alloc (.cells #[.int .i64 at_, .slice xA xn xc, .string line] 26))) := ⟨below_alloc (below_alloc (Below.refl _ w) _) _⟩
 have HS : Aside0 (∀ W1, Below ((w.alloc (.cells #[.int .i64 fr, .int .i64 till, .slice A n c, .int .i64 t0, .string t1, .string t2, .slice A' m c', .bool desc, .int .i64 lim, .string page] 37)).alloc (.cells #[.int .i64 at_, .slice xA xn xc, .string line] 26)).heap.size ((w.alloc (.cells #[.int .i64 fr, .int .i64 till, .slice A n c, .int .i64 t0, .string t1, .string t2, .slice A' m c', .bool desc, .int .i64 lim, .string page] 37)).alloc (.cells #[.int .i64 at_, .slice xA xn xc, .string line] 26)) W1 → W1.heap[w.heap.size]? = some (.cells #[.int .i64 fr, .int .i64 till, .slice A n c, .int .i64 t0, .string t1, .string t2, .slice A' m c', .bool desc, .int .i64 lim, .string page] 37 (0, 0)) ∧ W1.heap[w.heap.size + 1]? = some (.cells #[.int .i64 at_, .slice xA xn xc, .string line] 26 (0, 0))) := ⟨fun W1 h => ⟨heap_below h (box0 w _ _), heap_below h (box1 w _ _)⟩⟩
 clear hl hk
 by_cases h1 : fr ≤ at_
 ·have d1 : decide (fr ≤ at_) = true := decide_eq_true h1
  by_cases h2 : at_ ≤ till
  ·have d2 : decide (at_ ≤ till) = true := decide_eq_true h2
   rw [decide_eq_true h1, decide_eq_true h2, Bool.true_and, Bool.true_and]
   clear h1 h2
   cases l with
   | true =>
    rw [Bool.true_and]
    go_enter Tryz.func23, Tryz.ntmps23
    go_wp2_with (first
     | (go_at_call 34; refine (HL.out _ (Below.refl _ _)).mono ?_; rintro e w1 ⟨rfl, hb1⟩; have HB1 := Aside0.mk hb1; clear hb1; obtain ⟨hq_, he_⟩ := HS.out _ HB1.out; have k3 : w1.cell? ⟨w.heap.size, 3, none⟩ = some _ := (blk_cell hq_ 3).trans rfl; have k4 : w1.cell? ⟨w.heap.size, 4, none⟩ = some _ := (blk_cell hq_ 4).trans rfl; have k5 : w1.cell? ⟨w.heap.size, 5, none⟩ = some _ := (blk_cell hq_ 5).trans rfl; have k6 : w1.cell? ⟨w.heap.size, 6, none⟩ = some _ := (blk_cell hq_ 6).trans rfl; have k7 : w1.cell? ⟨w.heap.size + 1, 2, none⟩ = some _ := (blk_cell he_ 2).trans rfl; clear hq_ he_)
     | (go_at_call 35; refine (HK.out _ HB1.out).mono ?_; rintro e w2 ⟨rfl, hb2⟩; have HB2 := Aside0.mk (below_step HB1.out hb2); clear hb2))
    go_ret
    exact ⟨rfl, below_step HB0.out HB2.out⟩
   | false =>
    rw [Bool.false_and]
    clear HK HS
    go_enter Tryz.func23, Tryz.ntmps23
    go_wp2_with (go_at_call 34; refine (HL.out _ (Below.refl _ _)).mono ?_; rintro e w1 ⟨rfl, hb1⟩; have HB1 := Aside0.mk hb1; clear hb1)
    go_ret
    exact ⟨rfl, below_step HB0.out HB1.out⟩
  ·have d2 : decide (at_ ≤ till) = false := decide_eq_false h2
   rw [decide_eq_true h1, decide_eq_false h2, Bool.true_and, Bool.false_and]
   clear h1 h2 HL HK HS
   go_enter Tryz.func23, Tryz.ntmps23
   go_wp2
   go_ret
   exact ⟨rfl, HB0.out⟩
 ·have d1 : decide (fr ≤ at_) = false := decide_eq_false h1
  rw [decide_eq_false h1, Bool.false_and]
  clear h1 HL HK HS
  go_enter Tryz.func23, Tryz.ntmps23
  go_wp2
  go_ret
  exact ⟨rfl, HB0.out⟩
set_option maxRecDepth 20000 in
set_option maxHeartbeats 2000000 in
theorem refQuery_core (fr till at_ t0 lim : Int) (A A' xA : Option Addr) (n c m c' xn xc : Nat) (t1 t2 line page : ByteArray) (desc l k : Bool) (w : World)
  (hl : ∀ V, Below ((w.alloc (.cells #[.int .i64 fr, .int .i64 till, .slice A n c, .int .i64 t0, .string t1, .string t2, .slice A' m c', .bool desc, .int .i64 lim, .string page] 37)).alloc (.cells #[.int .i64 at_, .slice xA xn xc, .string line] 26)).heap.size ((w.alloc (.cells #[.int .i64 fr, .int .i64 till, .slice A n c, .int .i64 t0, .string t1, .string t2, .slice A' m c', .bool desc, .int .i64 lim, .string page] 37)).alloc (.cells #[.int .i64 at_, .slice xA xn xc, .string line] 26)) V → Calls Tryz.prog 31 #[.slice A n c, .agg #[.int .i64 at_, .slice xA xn xc, .string line]] V fun e w' => e = .returned (.bool l) ∧ Below V.heap.size V w')
  (hk : ∀ V, Below ((w.alloc (.cells #[.int .i64 fr, .int .i64 till, .slice A n c, .int .i64 t0, .string t1, .string t2, .slice A' m c', .bool desc, .int .i64 lim, .string page] 37)).alloc (.cells #[.int .i64 at_, .slice xA xn xc, .string line] 26)).heap.size ((w.alloc (.cells #[.int .i64 fr, .int .i64 till, .slice A n c, .int .i64 t0, .string t1, .string t2, .slice A' m c', .bool desc, .int .i64 lim, .string page] 37)).alloc (.cells #[.int .i64 at_, .slice xA xn xc, .string line] 26)) V → Calls Tryz.prog 32 #[.agg #[.int .i64 t0, .string t1, .string t2, .slice A' m c'], .string line] V fun e w' => e = .returned (.bool k) ∧ Below V.heap.size V w') :
  Calls Tryz.prog 20 #[.agg #[.int .i64 fr, .int .i64 till, .slice A n c, .int .i64 t0, .string t1, .string t2, .slice A' m c', .bool desc, .int .i64 lim, .string page], .agg #[.int .i64 at_, .slice xA xn xc, .string line]] w fun e w' => e = .returned (.bool (decide (fr ≤ at_) && (decide (at_ ≤ till) && (l && k)))) ∧ Below w.heap.size w w' := by
 have HL := Aside0.mk hl
 have HK := Aside0.mk hk
 have HB0 : Aside0 (Below w.heap.size w ((w.alloc (.cells #[.int .i64 fr, .int .i64 till, .slice A n c, .int .i64 t0, .string t1, .string t2, .slice A' m c', .bool desc, .int .i64 lim, .string page] 37)).alloc (.cells #[.int .i64 at_, .slice xA xn xc, .string line] 26))) := ⟨below_alloc (below_alloc (Below.refl _ w) _) _⟩
 have HS : Aside0 (∀ W1, Below ((w.alloc (.cells #[.int .i64 fr, .int .i64 till, .slice A n c, .int .i64 t0, .string t1, .string t2, .slice A' m c', .bool desc, .int .i64 lim, .string page] 37)).alloc (.cells #[.int .i64 at_, .slice xA xn xc, .string line] 26)).heap.size ((w.alloc (.cells #[.int .i64 fr, .int .i64 till, .slice A n c, .int .i64 t0, .string t1, .string t2, .slice A' m c', .bool desc, .int .i64 lim, .string page] 37)).alloc (.cells #[.int .i64 at_, .slice xA xn xc, .string line] 26)) W1 → W1.heap[w.heap.size]? = some (.cells #[.int .i64 fr, .int .i64 till, .slice A n c, .int .i64 t0, .string t1, .string t2, .slice A' m c', .bool desc, .int .i64 lim, .string page] 37 (0, 0)) ∧ W1.heap[w.heap.size + 1]? = some (.cells #[.int .i64 at_, .slice xA xn xc, .string line] 26 (0, 0))) := ⟨fun W1 h => ⟨heap_below h (box0 w _ _), heap_below h (box1 w _ _)⟩⟩
 clear hl hk
 by_cases h1 : fr ≤ at_
 ·have d1 : decide (at_ < fr) = false := decide_eq_false (by omega)
  by_cases h2 : at_ ≤ till
  ·have d2 : decide (till < at_) = false := decide_eq_false (by omega)
   rw [decide_eq_true h1, decide_eq_true h2, Bool.true_and, Bool.true_and]
   clear h1 h2
   cases l with
   | true =>
    rw [Bool.true_and]
    go_enter Tryz.func20, Tryz.ntmps20
    go_wp2_with (first
     | (go_at_call 31; refine (HL.out _ (Below.refl _ _)).mono ?_; rintro e w1 ⟨rfl, hb1⟩; have HB1 := Aside0.mk hb1; clear hb1; obtain ⟨hq_, he_⟩ := HS.out _ HB1.out; have k3 : w1.cell? ⟨w.heap.size, 3, none⟩ = some _ := (blk_cell hq_ 3).trans rfl; have k4 : w1.cell? ⟨w.heap.size, 4, none⟩ = some _ := (blk_cell hq_ 4).trans rfl; have k5 : w1.cell? ⟨w.heap.size, 5, none⟩ = some _ := (blk_cell hq_ 5).trans rfl; have k6 : w1.cell? ⟨w.heap.size, 6, none⟩ = some _ := (blk_cell hq_ 6).trans rfl; have k7 : w1.cell? ⟨w.heap.size + 1, 2, none⟩ = some _ := (blk_cell he_ 2).trans rfl; clear hq_ he_)
     | (go_at_call 32; refine (HK.out _ HB1.out).mono ?_; rintro e w2 ⟨rfl, hb2⟩; have HB2 := Aside0.mk (below_step HB1.out hb2); clear hb2))
    go_ret
    exact ⟨rfl, below_step HB0.out HB2.out⟩
   | false =>
    rw [Bool.false_and]
    clear HK HS
    go_enter Tryz.func20, Tryz.ntmps20
    go_wp2_with (go_at_call 31; refine (HL.out _ (Below.refl _ _)).mono ?_; rintro e w1 ⟨rfl, hb1⟩; have HB1 := Aside0.mk hb1; clear hb1)
    go_ret
    exact ⟨rfl, below_step HB0.out HB1.out⟩
  ·have d2 : decide (till < at_) = true := decide_eq_true (by omega)
   rw [decide_eq_true h1, decide_eq_false h2, Bool.true_and, Bool.false_and]
   clear h1 h2 HL HK HS
   go_enter Tryz.func20, Tryz.ntmps20
   go_wp2
   go_ret
   exact ⟨rfl, HB0.out⟩
 ·have d1 : decide (at_ < fr) = true := decide_eq_true (by omega)
  rw [decide_eq_false h1, Bool.false_and]
  clear h1 HL HK HS
  go_enter Tryz.func20, Tryz.ntmps20
  go_wp2
  go_ret
  exact ⟨rfl, HB0.out⟩
theorem query_m {W : World} (hC : Go.Proofs.YtpleiklodomgiaaGreatDoor.W.Con W) (hS : Go.Proofs.YtpleiklodomgiaaGreatDoor.M.Spl W) (q : Qv) (A A' : Option Addr) (c c' : Nat) (page : ByteArray) (x : Ent) (w : World) (hb : Below W.heap.size W w) (hq : IsQ w q A c A' c') (hx : x.In w) (hl : x.line.size ≤ 1000) :
  Calls Tryz.prog 23 #[qV q A c A' c' page, x.val] w fun e w' => e = .returned (.bool (keepB q x)) ∧ Below w.heap.size w w' := by
 have hb0 : ∀ o1 o2 : Obj, Below w.heap.size w ((w.alloc o1).alloc o2) := fun o1 o2 => below_alloc (below_alloc (Below.refl _ w) _) _
 exact query_core q.fr q.till x.at_ q.T.f0 q.lim A A' x.A q.ms.length c q.T.f3.length c' x.ls.length x.c q.T.f1 q.T.f2 x.line page q.desc (q.ms.all (mtB x)) (lineV x.line 4 q.T) w
  (fun V h => labels_m x q.ms A c V (in_below (in_below hx (hb0 _ _)) h) (Kd.C_below (Kd.C_below hq.rows (hb0 _ _)) h) hq.few)
  (fun V h => line_all (line := x.line) hC hS (by omega) 4 q.T A' c' V hq.tree.1 (below_step (below_step hb (hb0 _ _)) h) (Kd.C_below (Kd.C_below hq.tree.2.1 (hb0 _ _)) h) hq.tree.2.2)
theorem refQuery_m {W : World} (hD : Go.Proofs.YtpleiklodomgiaaGreatDoor.W.Dec W) (q : Qv) (A A' : Option Addr) (c c' : Nat) (page : ByteArray) (x : Ent) (w : World) (hb : Below W.heap.size W w) (hq : IsQ w q A c A' c') (hx : x.In w) (hl : x.line.size ≤ 1000) :
  Calls Tryz.prog 20 #[qV q A c A' c' page, x.val] w fun e w' => e = .returned (.bool (keepB q x)) ∧ Below w.heap.size w w' := by
 have hb0 : ∀ o1 o2 : Obj, Below w.heap.size w ((w.alloc o1).alloc o2) := fun o1 o2 => below_alloc (below_alloc (Below.refl _ w) _) _
 exact refQuery_core q.fr q.till x.at_ q.T.f0 q.lim A A' x.A q.ms.length c q.T.f3.length c' x.ls.length x.c q.T.f1 q.T.f2 x.line page q.desc (q.ms.all (mtB x)) (lineV x.line 4 q.T) w
  (fun V h => refLabels_m x q.ms A c V (in_below (in_below hx (hb0 _ _)) h) (Kd.C_below (Kd.C_below hq.rows (hb0 _ _)) h) hq.room hq.few)
  (fun V h => ref_all (line := x.line) hD hl 4 q.T A' c' V hq.tree.1 (below_step (below_step hb (hb0 _ _)) h) (Kd.C_below (Kd.C_below hq.tree.2.1 (hb0 _ _)) h) hq.tree.2.2)
end Go.Proofs.YtpleiklodomgiaaGreatDoor.Q
end
section
namespace Go.Proofs.YtpleiklodomgiaaGreatDoor.Q
open Go.RowKit Go.Shelf Go.Proofs.YtpleiklodomgiaaGreatDoorW.PrintWords Go.Proofs.YtpleiklodomgiaaGreatDoorW.PrintLast Go.Proofs.YtpleiklodomgiaaGreatDoorW.PrintMore Go.Proofs.YtpleiklodomgiaaGreatDoor.B Go.Proofs.YtpleiklodomgiaaGreatDoor.W Go.Proofs.YtpleiklodomgiaaGreatDoor.M Go.Proofs.YtpleiklodomgiaaGreatDoor.F Go.Proofs.YtpleiklodomgiaaGreatDoor.C Go.Proofs.YtpleiklodomgiaaGreatDoor.PModelIs
def BoxQ (w : World) (j : Nat) (q : Qv) (A : Option Addr) (c : Nat) (A' : Option Addr) (c' : Nat) : Prop := w.heap[j]? = some (.cells #[.int .i64 q.fr, .int .i64 q.till, .slice A q.ms.length c, .int .i64 q.T.f0, .string q.T.f1, .string q.T.f2, .slice A' q.T.f3.length c', .bool q.desc, .int .i64 q.lim, .string ⟨#[]⟩] 37 (0, 0))
theorem BoxQ.below {w w' : World} {j : Nat} {q : Qv} {A A' : Option Addr} {c c' : Nat} (h : BoxQ w j q A c A' c') (k : Below w.heap.size w w') : BoxQ w' j q A c A' c' := heap_below k h
theorem BoxQ.cells {w : World} {j : Nat} {q : Qv} {A A' : Option Addr} {c c' : Nat} (h : BoxQ w j q A c A' c') : w.cell? ⟨j, 0, none⟩ = some (.int .i64 q.fr) ∧ w.cell? ⟨j, 1, none⟩ = some (.int .i64 q.till) ∧ w.cell? ⟨j, 2, none⟩ = some (.slice A q.ms.length c) ∧ w.cell? ⟨j, 3, none⟩ = some (.int .i64 q.T.f0) ∧ w.cell? ⟨j, 4, none⟩ = some (.string q.T.f1) ∧ w.cell? ⟨j, 5, none⟩ = some (.string q.T.f2) ∧ w.cell? ⟨j, 6, none⟩ = some (.slice A' q.T.f3.length c') ∧ w.cell? ⟨j, 7, none⟩ = some (.bool q.desc) ∧ w.cell? ⟨j, 8, none⟩ = some (.int .i64 q.lim) ∧ w.cell? ⟨j, 9, none⟩ = some (.string ⟨#[]⟩) :=
 ⟨blk_cell h 0, blk_cell h 1, blk_cell h 2, blk_cell h 3, blk_cell h 4, blk_cell h 5, blk_cell h 6, blk_cell h 7, blk_cell h 8, blk_cell h 9⟩
end Go.Proofs.YtpleiklodomgiaaGreatDoor.Q
end
