/- Texts of this claim (printed ones, too), put together by a program that left out what the claim does not use. -/
import Derived.Test.YtfejjfbhlmjkeaaDoorMatchIs35
import Derived.Test.YtfejjfbhlmjkeaaDoorMatchIs37
import Derived.Test.YtfejjfbhlmjkeaaDoorMatchIs34
import Derived.Test.YtfejjfbhlmjkeaaDoorMatchIs33
import Derived.Test.YtfejjfbhlmjkeaaDoorMatchIs3
section
namespace Go.Proofs.YtfejjfbhlmjkeaaDoor.B
end Go.Proofs.YtfejjfbhlmjkeaaDoor.B
namespace Go.Proofs.YtfejjfbhlmjkeaaDoor.C
end Go.Proofs.YtfejjfbhlmjkeaaDoor.C
namespace Go.Proofs.YtfejjfbhlmjkeaaDoor.F
end Go.Proofs.YtfejjfbhlmjkeaaDoor.F
namespace Go.Proofs.YtfejjfbhlmjkeaaDoor.M
end Go.Proofs.YtfejjfbhlmjkeaaDoor.M
namespace Go.Proofs.YtfejjfbhlmjkeaaDoor.PModelMore
end Go.Proofs.YtfejjfbhlmjkeaaDoor.PModelMore
namespace Go.Proofs.YtfejjfbhlmjkeaaDoor.W
end Go.Proofs.YtfejjfbhlmjkeaaDoor.W
set_option linter.unusedVariables false
set_option linter.unusedSimpArgs false
namespace Go.Proofs.YtfejjfbhlmjkeaaDoor.Q
open Go.RowKit Go.Shelf Go.Proofs.YtfejjfbhlmjkeaaDoorW.PrintWords Go.Proofs.YtfejjfbhlmjkeaaDoorW.PrintLast Go.Proofs.YtfejjfbhlmjkeaaDoorW.PrintMore Go.Proofs.YtfejjfbhlmjkeaaDoor.B Go.Proofs.YtfejjfbhlmjkeaaDoor.W Go.Proofs.YtfejjfbhlmjkeaaDoor.M Go.Proofs.YtfejjfbhlmjkeaaDoor.F Go.Proofs.YtfejjfbhlmjkeaaDoor.C Go.Proofs.YtfejjfbhlmjkeaaDoor.PModelMore
/-- A query, as a value, with a page. -/
def qV (q : Qv) (A : Option Addr) (c : Nat) (A' : Option Addr) (c' : Nat) (page : ByteArray) : Value := .agg #[.int .i64 q.fr, .int .i64 q.till, .slice A q.ms.length c, .int .i64 q.T.f0, .string q.T.f1, .string q.T.f2, .slice A' q.T.f3.length c', .bool q.desc, .int .i64 q.lim, .string page]
/-- Whether a query keeps an entry. -/
def keepB (q : Qv) (x : Ent) : Bool := decide (q.fr ≤ x.at_) && (decide (x.at_ ≤ q.till) && (q.ms.all (mtB x) && lineV x.line 4 q.T))
set_option maxRecDepth 20000 in
set_option maxHeartbeats 2000000 in
theorem query_core (fr till at_ t0 lim : Int) (A A' xA : Option Addr) (n c m c' xn xc : Nat) (t1 t2 line page : ByteArray) (desc l k : Bool) (w : World)
    (hl : ∀ V, Below ((w.alloc (.cells #[.int .i64 fr, .int .i64 till, .slice A n c, .int .i64 t0, .string t1, .string t2, .slice A' m c', .bool desc, .int .i64 lim, .string page] 48)).alloc (.cells #[.int .i64 at_, .slice xA xn xc, .string line] 44)).heap.size ((w.alloc (.cells #[.int .i64 fr, .int .i64 till, .slice A n c, .int .i64 t0, .string t1, .string t2, .slice A' m c', .bool desc, .int .i64 lim, .string page] 48)).alloc (.cells #[.int .i64 at_, .slice xA xn xc, .string line] 44)) V → Calls Tryd.prog 33 #[.slice A n c, .agg #[.int .i64 at_, .slice xA xn xc, .string line]] V fun e w' => e = .returned (.bool l) ∧ Below V.heap.size V w')
    (hk : ∀ V, Below ((w.alloc (.cells #[.int .i64 fr, .int .i64 till, .slice A n c, .int .i64 t0, .string t1, .string t2, .slice A' m c', .bool desc, .int .i64 lim, .string page] 48)).alloc (.cells #[.int .i64 at_, .slice xA xn xc, .string line] 44)).heap.size ((w.alloc (.cells #[.int .i64 fr, .int .i64 till, .slice A n c, .int .i64 t0, .string t1, .string t2, .slice A' m c', .bool desc, .int .i64 lim, .string page] 48)).alloc (.cells #[.int .i64 at_, .slice xA xn xc, .string line] 44)) V → Calls Tryd.prog 27 #[.agg #[.int .i64 t0, .string t1, .string t2, .slice A' m c'], .string line] V fun e w' => e = .returned (.bool k) ∧ Below V.heap.size V w') :
    Calls Tryd.prog 35 #[.agg #[.int .i64 fr, .int .i64 till, .slice A n c, .int .i64 t0, .string t1, .string t2, .slice A' m c', .bool desc, .int .i64 lim, .string page], .agg #[.int .i64 at_, .slice xA xn xc, .string line]] w fun e w' => e = .returned (.bool (decide (fr ≤ at_) && (decide (at_ ≤ till) && (l && k)))) ∧ Below w.heap.size w w' := by
  have HL := Aside0.mk hl
  have HK := Aside0.mk hk
  have HB0 : Aside0 (Below w.heap.size w ((w.alloc (.cells #[.int .i64 fr, .int .i64 till, .slice A n c, .int .i64 t0, .string t1, .string t2, .slice A' m c', .bool desc, .int .i64 lim, .string page] 48)).alloc (.cells #[.int .i64 at_, .slice xA xn xc, .string line] 44))) := ⟨below_alloc (below_alloc (Below.refl _ w) _) _⟩
  have HS : Aside0 (∀ W1, Below ((w.alloc (.cells #[.int .i64 fr, .int .i64 till, .slice A n c, .int .i64 t0, .string t1, .string t2, .slice A' m c', .bool desc, .int .i64 lim, .string page] 48)).alloc (.cells #[.int .i64 at_, .slice xA xn xc, .string line] 44)).heap.size ((w.alloc (.cells #[.int .i64 fr, .int .i64 till, .slice A n c, .int .i64 t0, .string t1, .string t2, .slice A' m c', .bool desc, .int .i64 lim, .string page] 48)).alloc (.cells #[.int .i64 at_, .slice xA xn xc, .string line] 44)) W1 → W1.heap[w.heap.size]? = some (.cells #[.int .i64 fr, .int .i64 till, .slice A n c, .int .i64 t0, .string t1, .string t2, .slice A' m c', .bool desc, .int .i64 lim, .string page] 48 (0, 0)) ∧ W1.heap[w.heap.size + 1]? = some (.cells #[.int .i64 at_, .slice xA xn xc, .string line] 44 (0, 0))) := ⟨fun W1 h => ⟨heap_below h (box0 w _ _), heap_below h (box1 w _ _)⟩⟩
  clear hl hk
  by_cases h1 : fr ≤ at_
  · have d1 : decide (fr ≤ at_) = true := decide_eq_true h1
    by_cases h2 : at_ ≤ till
    · have d2 : decide (at_ ≤ till) = true := decide_eq_true h2
      rw [decide_eq_true h1, decide_eq_true h2, Bool.true_and, Bool.true_and]
      clear h1 h2
      cases l with
      | true =>
        rw [Bool.true_and]
        go_enter Tryd.func35, Tryd.ntmps35
        go_wp2_with (first
          | (go_at_call 33; refine (HL.out _ (Below.refl _ _)).mono ?_; rintro e w1 ⟨rfl, hb1⟩; have HB1 := Aside0.mk hb1; clear hb1; obtain ⟨hq_, he_⟩ := HS.out _ HB1.out; have k3 : w1.cell? ⟨w.heap.size, 3, none⟩ = some _ := (blk_cell hq_ 3).trans rfl; have k4 : w1.cell? ⟨w.heap.size, 4, none⟩ = some _ := (blk_cell hq_ 4).trans rfl; have k5 : w1.cell? ⟨w.heap.size, 5, none⟩ = some _ := (blk_cell hq_ 5).trans rfl; have k6 : w1.cell? ⟨w.heap.size, 6, none⟩ = some _ := (blk_cell hq_ 6).trans rfl; have k7 : w1.cell? ⟨w.heap.size + 1, 2, none⟩ = some _ := (blk_cell he_ 2).trans rfl; clear hq_ he_)
          | (go_at_call 27; refine (HK.out _ HB1.out).mono ?_; rintro e w2 ⟨rfl, hb2⟩; have HB2 := Aside0.mk (below_step HB1.out hb2); clear hb2))
        go_ret
        exact ⟨rfl, below_step HB0.out HB2.out⟩
      | false =>
        rw [Bool.false_and]
        clear HK HS
        go_enter Tryd.func35, Tryd.ntmps35
        go_wp2_with (go_at_call 33; refine (HL.out _ (Below.refl _ _)).mono ?_; rintro e w1 ⟨rfl, hb1⟩; have HB1 := Aside0.mk hb1; clear hb1)
        go_ret
        exact ⟨rfl, below_step HB0.out HB1.out⟩
    · have d2 : decide (at_ ≤ till) = false := decide_eq_false h2
      rw [decide_eq_true h1, decide_eq_false h2, Bool.true_and, Bool.false_and]
      clear h1 h2 HL HK HS
      go_enter Tryd.func35, Tryd.ntmps35
      go_wp2
      go_ret
      exact ⟨rfl, HB0.out⟩
  · have d1 : decide (fr ≤ at_) = false := decide_eq_false h1
    rw [decide_eq_false h1, Bool.false_and]
    clear h1 HL HK HS
    go_enter Tryd.func35, Tryd.ntmps35
    go_wp2
    go_ret
    exact ⟨rfl, HB0.out⟩
set_option maxRecDepth 20000 in
set_option maxHeartbeats 2000000 in
theorem refQuery_core (fr till at_ t0 lim : Int) (A A' xA : Option Addr) (n c m c' xn xc : Nat) (t1 t2 line page : ByteArray) (desc l k : Bool) (w : World)
    (hl : ∀ V, Below ((w.alloc (.cells #[.int .i64 fr, .int .i64 till, .slice A n c, .int .i64 t0, .string t1, .string t2, .slice A' m c', .bool desc, .int .i64 lim, .string page] 48)).alloc (.cells #[.int .i64 at_, .slice xA xn xc, .string line] 44)).heap.size ((w.alloc (.cells #[.int .i64 fr, .int .i64 till, .slice A n c, .int .i64 t0, .string t1, .string t2, .slice A' m c', .bool desc, .int .i64 lim, .string page] 48)).alloc (.cells #[.int .i64 at_, .slice xA xn xc, .string line] 44)) V → Calls Tryd.prog 34 #[.slice A n c, .agg #[.int .i64 at_, .slice xA xn xc, .string line]] V fun e w' => e = .returned (.bool l) ∧ Below V.heap.size V w')
    (hk : ∀ V, Below ((w.alloc (.cells #[.int .i64 fr, .int .i64 till, .slice A n c, .int .i64 t0, .string t1, .string t2, .slice A' m c', .bool desc, .int .i64 lim, .string page] 48)).alloc (.cells #[.int .i64 at_, .slice xA xn xc, .string line] 44)).heap.size ((w.alloc (.cells #[.int .i64 fr, .int .i64 till, .slice A n c, .int .i64 t0, .string t1, .string t2, .slice A' m c', .bool desc, .int .i64 lim, .string page] 48)).alloc (.cells #[.int .i64 at_, .slice xA xn xc, .string line] 44)) V → Calls Tryd.prog 28 #[.agg #[.int .i64 t0, .string t1, .string t2, .slice A' m c'], .string line] V fun e w' => e = .returned (.bool k) ∧ Below V.heap.size V w') :
    Calls Tryd.prog 36 #[.agg #[.int .i64 fr, .int .i64 till, .slice A n c, .int .i64 t0, .string t1, .string t2, .slice A' m c', .bool desc, .int .i64 lim, .string page], .agg #[.int .i64 at_, .slice xA xn xc, .string line]] w fun e w' => e = .returned (.bool (decide (fr ≤ at_) && (decide (at_ ≤ till) && (l && k)))) ∧ Below w.heap.size w w' := by
  have HL := Aside0.mk hl
  have HK := Aside0.mk hk
  have HB0 : Aside0 (Below w.heap.size w ((w.alloc (.cells #[.int .i64 fr, .int .i64 till, .slice A n c, .int .i64 t0, .string t1, .string t2, .slice A' m c', .bool desc, .int .i64 lim, .string page] 48)).alloc (.cells #[.int .i64 at_, .slice xA xn xc, .string line] 44))) := ⟨below_alloc (below_alloc (Below.refl _ w) _) _⟩
  have HS : Aside0 (∀ W1, Below ((w.alloc (.cells #[.int .i64 fr, .int .i64 till, .slice A n c, .int .i64 t0, .string t1, .string t2, .slice A' m c', .bool desc, .int .i64 lim, .string page] 48)).alloc (.cells #[.int .i64 at_, .slice xA xn xc, .string line] 44)).heap.size ((w.alloc (.cells #[.int .i64 fr, .int .i64 till, .slice A n c, .int .i64 t0, .string t1, .string t2, .slice A' m c', .bool desc, .int .i64 lim, .string page] 48)).alloc (.cells #[.int .i64 at_, .slice xA xn xc, .string line] 44)) W1 → W1.heap[w.heap.size]? = some (.cells #[.int .i64 fr, .int .i64 till, .slice A n c, .int .i64 t0, .string t1, .string t2, .slice A' m c', .bool desc, .int .i64 lim, .string page] 48 (0, 0)) ∧ W1.heap[w.heap.size + 1]? = some (.cells #[.int .i64 at_, .slice xA xn xc, .string line] 44 (0, 0))) := ⟨fun W1 h => ⟨heap_below h (box0 w _ _), heap_below h (box1 w _ _)⟩⟩
  clear hl hk
  by_cases h1 : fr ≤ at_
  · have d1 : decide (at_ < fr) = false := decide_eq_false (by omega)
    by_cases h2 : at_ ≤ till
    · have d2 : decide (till < at_) = false := decide_eq_false (by omega)
      rw [decide_eq_true h1, decide_eq_true h2, Bool.true_and, Bool.true_and]
      clear h1 h2
      cases l with
      | true =>
        rw [Bool.true_and]
        go_enter Tryd.func36, Tryd.ntmps36
        go_wp2_with (first
          | (go_at_call 34; refine (HL.out _ (Below.refl _ _)).mono ?_; rintro e w1 ⟨rfl, hb1⟩; have HB1 := Aside0.mk hb1; clear hb1; obtain ⟨hq_, he_⟩ := HS.out _ HB1.out; have k3 : w1.cell? ⟨w.heap.size, 3, none⟩ = some _ := (blk_cell hq_ 3).trans rfl; have k4 : w1.cell? ⟨w.heap.size, 4, none⟩ = some _ := (blk_cell hq_ 4).trans rfl; have k5 : w1.cell? ⟨w.heap.size, 5, none⟩ = some _ := (blk_cell hq_ 5).trans rfl; have k6 : w1.cell? ⟨w.heap.size, 6, none⟩ = some _ := (blk_cell hq_ 6).trans rfl; have k7 : w1.cell? ⟨w.heap.size + 1, 2, none⟩ = some _ := (blk_cell he_ 2).trans rfl; clear hq_ he_)
          | (go_at_call 28; refine (HK.out _ HB1.out).mono ?_; rintro e w2 ⟨rfl, hb2⟩; have HB2 := Aside0.mk (below_step HB1.out hb2); clear hb2))
        go_ret
        exact ⟨rfl, below_step HB0.out HB2.out⟩
      | false =>
        rw [Bool.false_and]
        clear HK HS
        go_enter Tryd.func36, Tryd.ntmps36
        go_wp2_with (go_at_call 34; refine (HL.out _ (Below.refl _ _)).mono ?_; rintro e w1 ⟨rfl, hb1⟩; have HB1 := Aside0.mk hb1; clear hb1)
        go_ret
        exact ⟨rfl, below_step HB0.out HB1.out⟩
    · have d2 : decide (till < at_) = true := decide_eq_true (by omega)
      rw [decide_eq_true h1, decide_eq_false h2, Bool.true_and, Bool.false_and]
      clear h1 h2 HL HK HS
      go_enter Tryd.func36, Tryd.ntmps36
      go_wp2
      go_ret
      exact ⟨rfl, HB0.out⟩
  · have d1 : decide (at_ < fr) = true := decide_eq_true (by omega)
    rw [decide_eq_false h1, Bool.false_and]
    clear h1 HL HK HS
    go_enter Tryd.func36, Tryd.ntmps36
    go_wp2
    go_ret
    exact ⟨rfl, HB0.out⟩
theorem query_m {W : World} (hC : Go.Proofs.YtfejjfbhlmjkeaaDoor.W.Con W) (hS : Go.Proofs.YtfejjfbhlmjkeaaDoor.M.Spl W) (q : Qv) (A A' : Option Addr) (c c' : Nat) (page : ByteArray) (x : Ent) (w : World) (hb : Below W.heap.size W w) (hq : IsQ w q A c A' c') (hx : x.In w) (hl : x.line.size ≤ 1000) :
    Calls Tryd.prog 35 #[qV q A c A' c' page, x.val] w fun e w' => e = .returned (.bool (keepB q x)) ∧ Below w.heap.size w w' := by
  have hb0 : ∀ o1 o2 : Obj, Below w.heap.size w ((w.alloc o1).alloc o2) := fun o1 o2 => below_alloc (below_alloc (Below.refl _ w) _) _
  exact query_core q.fr q.till x.at_ q.T.f0 q.lim A A' x.A q.ms.length c q.T.f3.length c' x.ls.length x.c q.T.f1 q.T.f2 x.line page q.desc (q.ms.all (mtB x)) (lineV x.line 4 q.T) w
    (fun V h => labels_m x q.ms A c V (in_below (in_below hx (hb0 _ _)) h) (Kd.C_below (Kd.C_below hq.rows (hb0 _ _)) h) hq.few)
    (fun V h => line_all (line := x.line) hC hS (by omega) 4 q.T A' c' V hq.tree.1 (below_step (below_step hb (hb0 _ _)) h) (Kd.C_below (Kd.C_below hq.tree.2.1 (hb0 _ _)) h) hq.tree.2.2)
theorem refQuery_m {W : World} (hD : Go.Proofs.YtfejjfbhlmjkeaaDoor.W.Dec W) (q : Qv) (A A' : Option Addr) (c c' : Nat) (page : ByteArray) (x : Ent) (w : World) (hb : Below W.heap.size W w) (hq : IsQ w q A c A' c') (hx : x.In w) (hl : x.line.size ≤ 1000) :
    Calls Tryd.prog 36 #[qV q A c A' c' page, x.val] w fun e w' => e = .returned (.bool (keepB q x)) ∧ Below w.heap.size w w' := by
  have hb0 : ∀ o1 o2 : Obj, Below w.heap.size w ((w.alloc o1).alloc o2) := fun o1 o2 => below_alloc (below_alloc (Below.refl _ w) _) _
  exact refQuery_core q.fr q.till x.at_ q.T.f0 q.lim A A' x.A q.ms.length c q.T.f3.length c' x.ls.length x.c q.T.f1 q.T.f2 x.line page q.desc (q.ms.all (mtB x)) (lineV x.line 4 q.T) w
    (fun V h => refLabels_m x q.ms A c V (in_below (in_below hx (hb0 _ _)) h) (Kd.C_below (Kd.C_below hq.rows (hb0 _ _)) h) hq.room hq.few)
    (fun V h => ref_all (line := x.line) hD hl 4 q.T A' c' V hq.tree.1 (below_step (below_step hb (hb0 _ _)) h) (Kd.C_below (Kd.C_below hq.tree.2.1 (hb0 _ _)) h) hq.tree.2.2)
end Go.Proofs.YtfejjfbhlmjkeaaDoor.Q
end
section
namespace Go.Proofs.YtfejjfbhlmjkeaaDoor.B
end Go.Proofs.YtfejjfbhlmjkeaaDoor.B
namespace Go.Proofs.YtfejjfbhlmjkeaaDoor.C
end Go.Proofs.YtfejjfbhlmjkeaaDoor.C
namespace Go.Proofs.YtfejjfbhlmjkeaaDoor.F
end Go.Proofs.YtfejjfbhlmjkeaaDoor.F
namespace Go.Proofs.YtfejjfbhlmjkeaaDoor.M
end Go.Proofs.YtfejjfbhlmjkeaaDoor.M
namespace Go.Proofs.YtfejjfbhlmjkeaaDoor.PModelMore
end Go.Proofs.YtfejjfbhlmjkeaaDoor.PModelMore
namespace Go.Proofs.YtfejjfbhlmjkeaaDoor.W
end Go.Proofs.YtfejjfbhlmjkeaaDoor.W
set_option linter.unusedVariables false
set_option linter.unusedSimpArgs false
namespace Go.Proofs.YtfejjfbhlmjkeaaDoor.Q
open Go.RowKit Go.Shelf Go.Proofs.YtfejjfbhlmjkeaaDoorW.PrintWords Go.Proofs.YtfejjfbhlmjkeaaDoorW.PrintLast Go.Proofs.YtfejjfbhlmjkeaaDoorW.PrintMore Go.Proofs.YtfejjfbhlmjkeaaDoor.B Go.Proofs.YtfejjfbhlmjkeaaDoor.W Go.Proofs.YtfejjfbhlmjkeaaDoor.M Go.Proofs.YtfejjfbhlmjkeaaDoor.F Go.Proofs.YtfejjfbhlmjkeaaDoor.C Go.Proofs.YtfejjfbhlmjkeaaDoor.PModelMore
/-- A box of a query. -/
def BoxQ (w : World) (j : Nat) (q : Qv) (A : Option Addr) (c : Nat) (A' : Option Addr) (c' : Nat) : Prop := w.heap[j]? = some (.cells #[.int .i64 q.fr, .int .i64 q.till, .slice A q.ms.length c, .int .i64 q.T.f0, .string q.T.f1, .string q.T.f2, .slice A' q.T.f3.length c', .bool q.desc, .int .i64 q.lim, .string ⟨#[]⟩] 48 (0, 0))
theorem BoxQ.below {w w' : World} {j : Nat} {q : Qv} {A A' : Option Addr} {c c' : Nat} (h : BoxQ w j q A c A' c') (k : Below w.heap.size w w') : BoxQ w' j q A c A' c' := heap_below k h
theorem BoxQ.cells {w : World} {j : Nat} {q : Qv} {A A' : Option Addr} {c c' : Nat} (h : BoxQ w j q A c A' c') : w.cell? ⟨j, 0, none⟩ = some (.int .i64 q.fr) ∧ w.cell? ⟨j, 1, none⟩ = some (.int .i64 q.till) ∧ w.cell? ⟨j, 2, none⟩ = some (.slice A q.ms.length c) ∧ w.cell? ⟨j, 3, none⟩ = some (.int .i64 q.T.f0) ∧ w.cell? ⟨j, 4, none⟩ = some (.string q.T.f1) ∧ w.cell? ⟨j, 5, none⟩ = some (.string q.T.f2) ∧ w.cell? ⟨j, 6, none⟩ = some (.slice A' q.T.f3.length c') ∧ w.cell? ⟨j, 7, none⟩ = some (.bool q.desc) ∧ w.cell? ⟨j, 8, none⟩ = some (.int .i64 q.lim) ∧ w.cell? ⟨j, 9, none⟩ = some (.string ⟨#[]⟩) :=
  ⟨blk_cell h 0, blk_cell h 1, blk_cell h 2, blk_cell h 3, blk_cell h 4, blk_cell h 5, blk_cell h 6, blk_cell h 7, blk_cell h 8, blk_cell h 9⟩
end Go.Proofs.YtfejjfbhlmjkeaaDoor.Q
end
section
namespace Go.Proofs.YtfejjfbhlmjkeaaDoor.B
end Go.Proofs.YtfejjfbhlmjkeaaDoor.B
namespace Go.Proofs.YtfejjfbhlmjkeaaDoor.C
end Go.Proofs.YtfejjfbhlmjkeaaDoor.C
namespace Go.Proofs.YtfejjfbhlmjkeaaDoor.F
end Go.Proofs.YtfejjfbhlmjkeaaDoor.F
namespace Go.Proofs.YtfejjfbhlmjkeaaDoor.M
end Go.Proofs.YtfejjfbhlmjkeaaDoor.M
namespace Go.Proofs.YtfejjfbhlmjkeaaDoor.PModelMore
end Go.Proofs.YtfejjfbhlmjkeaaDoor.PModelMore
namespace Go.Proofs.YtfejjfbhlmjkeaaDoor.Reg
end Go.Proofs.YtfejjfbhlmjkeaaDoor.Reg
namespace Go.Proofs.YtfejjfbhlmjkeaaDoor.W
end Go.Proofs.YtfejjfbhlmjkeaaDoor.W
set_option linter.unusedVariables false
set_option linter.unusedSimpArgs false
namespace Go.Proofs.YtfejjfbhlmjkeaaDoor.Q
open Go.RowKit Go.Shelf Go.Proofs.YtfejjfbhlmjkeaaDoorW.PrintWords Go.Proofs.YtfejjfbhlmjkeaaDoorW.PrintLast Go.Proofs.YtfejjfbhlmjkeaaDoorW.PrintMore Go.Proofs.YtfejjfbhlmjkeaaDoor.B Go.Proofs.YtfejjfbhlmjkeaaDoor.Reg Go.Proofs.YtfejjfbhlmjkeaaDoor.W Go.Proofs.YtfejjfbhlmjkeaaDoor.M Go.Proofs.YtfejjfbhlmjkeaaDoor.F Go.Proofs.YtfejjfbhlmjkeaaDoor.C Go.Proofs.YtfejjfbhlmjkeaaDoor.PModelMore
def T_magpielaw09_MatchIs_9 : Bool × List (List Nat × List Nat) := (true, [([], []), ([], []), ([0, 1], [0, 1]), ([], []), ([], []), ([3, 4, 2], [3, 4]), ([2, 5], [2, 5])])
def B_magpielaw09_MatchIs_9 : List Nat := [0, 0, 3, 0, 0, 31, 63]
theorem tab_magpielaw09_MatchIs_9 : rtab .any (opsOf Tryd.f8 9) = T_magpielaw09_MatchIs_9 := by kernel_rfl
theorem bits_magpielaw09_MatchIs_9 : waitsOk T_magpielaw09_MatchIs_9.2 B_magpielaw09_MatchIs_9 = true := by kernel_rfl
def T_magpielaw09_MatchIs_12 : Bool × List (List Nat × List Nat) := (true, [([], []), ([], []), ([1], [1]), ([0, 2], [0, 2]), ([], []), ([], []), ([5], [5]), ([4, 6, 3], [4, 6]), ([3, 7], [3, 7]), ([8, 7], [8]), ([9], [9]), ([10, 9], [9, 10]), ([9], [9]), ([11, 12, 9, 9], [9, 11, 12]), ([9], [9]), ([14, 9], [9, 14]), ([9], [9]), ([15, 16, 13, 9], [9, 15, 16]), ([13, 17, 9], [9, 13, 17]), ([9, 18], [9, 18]), ([19, 17], [19]), ([20], [20]), ([20], [20]), ([21, 22, 20, 20], [20, 21, 22]), ([20], [20]), ([20], [20]), ([24, 25, 23, 20], [20, 24, 25]), ([23, 26, 20], [20, 23, 26]), ([20, 27], [20, 27]), ([28, 26, 0, 1, 2, 3, 4, 5, 6, 7, 8, 9, 10, 11, 12, 13, 14, 15, 16, 17, 18, 19, 20, 21, 22, 23, 24, 25, 26, 27, 28], [28])])
def B_magpielaw09_MatchIs_12 : List Nat := [0, 0, 2, 7, 0, 0, 32, 127, 255, 511, 1023, 2047, 1023, 8191, 1023, 17407, 1023, 131071, 262143, 524287, 1048575, 2097151, 2097151, 8388607, 2097151, 2097151, 67108863, 134217727, 268435455, 536870911]
theorem tab_magpielaw09_MatchIs_12 : rtab .any (opsOf Tryd.f8 12) = T_magpielaw09_MatchIs_12 := by kernel_rfl
theorem bits_magpielaw09_MatchIs_12 : waitsOk T_magpielaw09_MatchIs_12.2 B_magpielaw09_MatchIs_12 = true := by kernel_rfl
/-- A box of a matcher, of a filter. -/
def BoxM (w : World) (j : Nat) (m : Mt) : Prop := w.heap[j]? = some (.cells #[.string m.f0, .bool m.f1, .string m.f2] 51 (0, 0))
theorem BoxM.below {w w' : World} {j : Nat} {m : Mt} (h : BoxM w j m) (k : Below w.heap.size w w') : BoxM w' j m := heap_below k h
theorem BoxM.cells {w : World} {j : Nat} {m : Mt} (h : BoxM w j m) : w.cell? ⟨j, 0, none⟩ = some (.string m.f0) ∧ w.cell? ⟨j, 1, none⟩ = some (.bool m.f1) ∧ w.cell? ⟨j, 2, none⟩ = some (.string m.f2) := ⟨blk_cell h 0, blk_cell h 1, blk_cell h 2⟩
def BoxF (w : World) (j : Nat) (T : S36) (A : Option Addr) (c : Nat) : Prop := w.heap[j]? = some (.cells #[.int .i64 T.f0, .string T.f1, .string T.f2, .slice A T.f3.length c] 36 (0, 0))
theorem BoxF.below {w w' : World} {j : Nat} {T : S36} {A : Option Addr} {c : Nat} (h : BoxF w j T A c) (k : Below w.heap.size w w') : BoxF w' j T A c := heap_below k h
theorem BoxF.cells {w : World} {j : Nat} {T : S36} {A : Option Addr} {c : Nat} (h : BoxF w j T A c) : w.cell? ⟨j, 0, none⟩ = some (.int .i64 T.f0) ∧ w.cell? ⟨j, 1, none⟩ = some (.string T.f1) ∧ w.cell? ⟨j, 2, none⟩ = some (.string T.f2) ∧ w.cell? ⟨j, 3, none⟩ = some (.slice A T.f3.length c) := ⟨blk_cell h 0, blk_cell h 1, blk_cell h 2, blk_cell h 3⟩
theorem BoxE.cells {w : World} {j : Nat} {x : Ent} (h : BoxE w j x) : w.cell? ⟨j, 0, none⟩ = some (.int .i64 x.at_) ∧ w.cell? ⟨j, 1, none⟩ = some (.slice x.A x.ls.length x.c) ∧ w.cell? ⟨j, 2, none⟩ = some (.string x.line) := ⟨h.c0, h.c1, h.c2⟩
set_option maxRecDepth 20000 in
set_option maxHeartbeats 16000000 in
theorem matchIs_all (L : List Int) (A : Option Addr) (c : Nat) (x : Ent) (W : World) (hC : Go.Proofs.YtfejjfbhlmjkeaaDoor.W.Con W) (hS : Go.Proofs.YtfejjfbhlmjkeaaDoor.M.Spl W) (hD : Go.Proofs.YtfejjfbhlmjkeaaDoor.W.Dec W) (hL : Kd.C (Kd.int .i64) W A L.length L) (hx : x.Raw W) :
    Calls Tryd.prog 8 #[.slice A L.length c, x.val] W fun e w' => e = .returned (.bool true) ∧ Below W.heap.size W w' := by
  have HA0 := fun w => Aside0.mk (alive9 w)
  obtain ⟨V0, hV0⟩ : ∃ V, V = W.alloc (.cells #[.int .i64 x.at_, .slice x.A x.ls.length x.c, .string x.line] 44) := ⟨_, rfl⟩
  obtain ⟨be, hbe⟩ : ∃ b, b = W.heap.size := ⟨_, rfl⟩
  have hb0 : Below W.heap.size W V0 := by rw [hV0]; exact below_alloc (Below.refl _ _) _
  have HE : Aside0 (BoxE V0 be x) := ⟨by rw [hV0, hbe]; exact Go.heap_alloc_new _ _⟩
  have HWd := Aside0.mk hV0
  have HJd := Aside0.mk hbe
  have HB := Aside0.mk hb0
  have HX0 := Aside0.mk hx
  clear hV0 hbe hb0 hx
  by_cases h1 : (300 : Int) < (L.length : Int)
  · have d1 : decide ((300 : Int) < (L.length : Int)) = true := decide_eq_true h1
    clear h1 hC hS hL hD
    unfold Ent.val
    go_enter Tryd.func8, Tryd.ntmps8
    go_wp2_with fail
    try rw [← HWd.out]
    try rw [← HJd.out]
    ((refine ((HA0 _).out).mono ?_); rintro e w1 ⟨rfl, hb1⟩)
    have HB := Aside0.mk (below_step HB.out hb1)
    clear hb1
    go_wp2
    go_ret
    exact ⟨rfl, HB.out⟩
  have d1 : decide ((300 : Int) < (L.length : Int)) = false := decide_eq_false h1
  obtain ⟨g, hg⟩ : ∃ g, g = greatB x.key := ⟨_, rfl⟩
  have HG : Aside0 (∀ V, Below W.heap.size W V → Calls Tryd.prog 29 #[x.val] V fun e w' => e = .returned (.bool g) ∧ Below V.heap.size V w') := ⟨fun V h => by rw [hg]; exact great_any x V (HX0.out.below h)⟩
  have Hg := Aside0.mk hg
  clear hg
  unfold Ent.val at HG
  cases g with
  | true =>
    clear h1 hC hS hL hD
    unfold Ent.val
    go_enter Tryd.func8, Tryd.ntmps8
    go_wp2_with fail
    try rw [← HWd.out]
    try rw [← HJd.out]
    ((refine ((HA0 _).out).mono ?_); rintro e w1 ⟨rfl, hb1⟩)
    have HB := Aside0.mk (below_step HB.out hb1)
    have HE := Aside0.mk (HE.out.below hb1)
    clear hb1
    have e0 := HE.out.c0
    have e1 := HE.out.c1
    have e2 := HE.out.c2
    go_wp2_with fail
    ((refine (HG.out _ HB.out).mono ?_); rintro e w2 ⟨rfl, hb2⟩)
    have HB := Aside0.mk (below_step HB.out hb2)
    clear hb2
    go_wp2
    go_ret
    exact ⟨rfl, HB.out⟩
  | false =>
  have hgf := great_few Hg.out.symm
  have HXl : Aside0 (x.line.size ≤ 1000) := ⟨hgf.2.1⟩
  have HXi : Aside0 (∀ V, Below W.heap.size W V → x.In V) := ⟨fun V h => (HX0.out.below h).in_ (Nat.le_trans hgf.1 (by decide))⟩
  have HQy := Aside0.mk (fun w (h : Below W.heap.size W w) => query_any L (by omega) A c w (Kd.C_below hL h))
  have HFi := Aside0.mk (fun w (h : Below W.heap.size W w) => filter_any L (by omega) A c w (Kd.C_below hL h))
  have HLn := Aside0.mk (line_all (line := x.line) hC hS (by have := HXl.out; omega))
  have HRn := Aside0.mk (ref_all (line := x.line) hD HXl.out)
  have HQm := Aside0.mk (fun (q : Qv) (A A' : Option Addr) (c c' : Nat) (page : ByteArray) (V : World) (h : Below W.heap.size W V) (hq : IsQ V q A c A' c') => query_m hC hS q A A' c c' page x V h hq (HXi.out V h) HXl.out)
  have HQr := Aside0.mk (fun (q : Qv) (A A' : Option Addr) (c c' : Nat) (page : ByteArray) (V : World) (h : Below W.heap.size W V) (hq : IsQ V q A c A' c') => refQuery_m hD q A A' c c' page x V h hq (HXi.out V h) HXl.out)
  clear h1 hC hS hL hgf Hg hD
  obtain ⟨n, hn⟩ : ∃ n, n = L.length := ⟨_, rfl⟩
  rw [← hn] at d1 HQy HFi ⊢
  clear hn
  unfold Ent.val at HQm HQr ⊢
  go_enter Tryd.func8, Tryd.ntmps8
  go_wp2_with fail
  try rw [← HWd.out]
  try rw [← HJd.out]
  ((refine ((HA0 _).out).mono ?_); rintro e w1 ⟨rfl, hb1⟩)
  have HB := Aside0.mk (below_step HB.out hb1)
  have HE := Aside0.mk (HE.out.below hb1)
  clear hb1 HA0
  have e0 := HE.out.c0
  have e1 := HE.out.c1
  have e2 := HE.out.c2
  go_wp2_with fail
  clear e0 e1 e2
  ((refine (HG.out _ HB.out).mono ?_); rintro e w2 ⟨rfl, hb2⟩)
  have HB := Aside0.mk (below_step HB.out hb2)
  have HE := Aside0.mk (HE.out.below hb2)
  clear hb2 HG
  go_wp2_with fail
  ((refine (HFi.out _ HB.out).mono ?_); rintro e w3 ⟨T, AT, cT, rfl, hF, hb3⟩)
  have HB := Aside0.mk (below_step HB.out hb3)
  have HE := Aside0.mk (HE.out.below hb3)
  have HF := Aside0.mk hF.now
  clear hb3 hF HFi
  unfold fv
  go_wp2_with fail
  ((refine (HQy.out _ HB.out).mono ?_); rintro e w3 ⟨q, A1, c1, A2, c2, rfl, hq, hb3⟩)
  have HB := Aside0.mk (below_step HB.out hb3)
  have HE := Aside0.mk (HE.out.below hb3)
  have HF := Aside0.mk (HF.out.below hb3)
  have HQ := Aside0.mk hq
  clear hb3 hq HQy
  unfold qvVal
  obtain ⟨V, hV⟩ : ∃ V, V = (w3.alloc (.cells #[.int .i64 T.f0, .string T.f1, .string T.f2, .slice AT T.f3.length cT] 36)).alloc (.cells #[.int .i64 q.fr, .int .i64 q.till, .slice A1 q.ms.length c1, .int .i64 q.T.f0, .string q.T.f1, .string q.T.f2, .slice A2 q.T.f3.length c2, .bool q.desc, .int .i64 q.lim, .string ⟨#[]⟩] 48) := ⟨_, rfl⟩
  obtain ⟨bq, hbq⟩ : ∃ b, b = w3.heap.size + 1 := ⟨_, rfl⟩
  obtain ⟨bf, hbf⟩ : ∃ b, b = w3.heap.size := ⟨_, rfl⟩
  have hb4 : Below w3.heap.size w3 V := by rw [hV]; exact below_alloc (below_alloc (Below.refl _ _) _) _
  have HBF : Aside0 (BoxF V bf T AT cT) := ⟨by rw [hV, hbf]; exact box0 _ _ _⟩
  have HBQ : Aside0 (BoxQ V bq q A1 c1 A2 c2) := ⟨by rw [hV, hbq]; exact box1 _ _ _⟩
  have HB := Aside0.mk (below_step HB.out hb4)
  have HE := Aside0.mk (HE.out.below hb4)
  have HQ := Aside0.mk (HQ.out.below hb4)
  have HF := Aside0.mk (HF.out.below hb4)
  have HVd := Aside0.mk hV
  have HKd := Aside0.mk hbq
  have HLd := Aside0.mk hbf
  clear hV hbq hb4 hbf
  have EC : Aside0 (∀ V', Below V.heap.size V V' → BoxE V' be x) := ⟨fun V' h => HE.out.below h⟩
  have QC : Aside0 (∀ V', Below V.heap.size V V' → BoxQ V' bq q A1 c1 A2 c2) := ⟨fun V' h => HBQ.out.below h⟩
  have FC : Aside0 (∀ V', Below V.heap.size V V' → BoxF V' bf T AT cT) := ⟨fun V' h => HBF.out.below h⟩
  have MR : Aside0 (∀ V', Below V.heap.size V V' → Kd.C k51 V' A1 q.ms.length q.ms) := ⟨fun V' h => Kd.C_below HQ.out.rows h⟩
  have MF : Aside0 (q.ms.length ≤ 1000) := ⟨HQ.out.few⟩
  have HLab : Aside0 (∀ (m : Mt) V', Below V.heap.size V V' → Calls Tryd.prog 31 #[.agg #[.string m.f0, .bool m.f1, .string m.f2], .agg #[.int .i64 x.at_, .slice x.A x.ls.length x.c, .string x.line]] V' fun e w' => e = .returned (.bool (mtB x m)) ∧ Below V'.heap.size V' w') := ⟨fun m V' h => label_m x m V' (HXi.out _ (below_step HB.out h))⟩
  have HRLab : Aside0 (∀ (m : Mt) V', Below V.heap.size V V' → Calls Tryd.prog 32 #[.agg #[.string m.f0, .bool m.f1, .string m.f2], .agg #[.int .i64 x.at_, .slice x.A x.ls.length x.c, .string x.line]] V' fun e w' => e = .returned (.bool (mtB x m)) ∧ Below V'.heap.size V' w') := ⟨fun m V' h => refLabel_m x m V' (HXi.out _ (below_step HB.out h))⟩
  obtain ⟨kb, hkb⟩ : ∃ k, k = keepB q x := ⟨_, rfl⟩
  obtain ⟨kl, hkl⟩ : ∃ k, k = lineV x.line 5 T := ⟨_, rfl⟩
  obtain ⟨ka, hka⟩ : ∃ k, k = q.ms.all (mtB x) := ⟨_, rfl⟩
  have HQ1 : Aside0 (∀ V', Below V.heap.size V V' → Calls Tryd.prog 35 #[qV q A1 c1 A2 c2 ⟨#[]⟩, .agg #[.int .i64 x.at_, .slice x.A x.ls.length x.c, .string x.line]] V' fun e w' => e = .returned (.bool kb) ∧ Below V'.heap.size V' w') := ⟨fun V' h => by rw [hkb]; exact HQm.out q A1 A2 c1 c2 _ V' (below_step HB.out h) (HQ.out.below h)⟩
  have HQ2 : Aside0 (∀ V', Below V.heap.size V V' → Calls Tryd.prog 36 #[qV q A1 c1 A2 c2 ⟨#[]⟩, .agg #[.int .i64 x.at_, .slice x.A x.ls.length x.c, .string x.line]] V' fun e w' => e = .returned (.bool kb) ∧ Below V'.heap.size V' w') := ⟨fun V' h => by rw [hkb]; exact HQr.out q A1 A2 c1 c2 _ V' (below_step HB.out h) (HQ.out.below h)⟩
  have HL1 : Aside0 (∀ V', Below V.heap.size V V' → Calls Tryd.prog 27 #[.agg #[.int .i64 T.f0, .string T.f1, .string T.f2, .slice AT T.f3.length cT], .string x.line] V' fun e w' => e = .returned (.bool kl) ∧ Below V'.heap.size V' w') := ⟨fun V' h => by rw [hkl]; exact HLn.out 5 T AT cT V' HF.out.1 (below_step HB.out h) (Kd.C_below HF.out.2.1 h) HF.out.2.2⟩
  have HL2 : Aside0 (∀ V', Below V.heap.size V V' → Calls Tryd.prog 28 #[.agg #[.int .i64 T.f0, .string T.f1, .string T.f2, .slice AT T.f3.length cT], .string x.line] V' fun e w' => e = .returned (.bool kl) ∧ Below V'.heap.size V' w') := ⟨fun V' h => by rw [hkl]; exact HRn.out 5 T AT cT V' HF.out.1 (below_step HB.out h) (Kd.C_below HF.out.2.1 h) HF.out.2.2⟩
  have HS1 : Aside0 (∀ V', Below V.heap.size V V' → Calls Tryd.prog 33 #[.slice A1 q.ms.length c1, .agg #[.int .i64 x.at_, .slice x.A x.ls.length x.c, .string x.line]] V' fun e w' => e = .returned (.bool ka) ∧ Below V'.heap.size V' w') := ⟨fun V' h => by rw [hka]; exact labels_m x q.ms A1 c1 V' (HXi.out _ (below_step HB.out h)) (MR.out V' h) MF.out⟩
  have HS2 : Aside0 (∀ V', Below V.heap.size V V' → Calls Tryd.prog 34 #[.slice A1 q.ms.length c1, .agg #[.int .i64 x.at_, .slice x.A x.ls.length x.c, .string x.line]] V' fun e w' => e = .returned (.bool ka) ∧ Below V'.heap.size V' w') := ⟨fun V' h => by rw [hka]; exact refLabels_m x q.ms A1 c1 V' (HXi.out _ (below_step HB.out h)) (MR.out V' h) HQ.out.room MF.out⟩
  clear hkb hkl hka HQ HF HE HBQ HBF HQm HQr HLn HRn HX0 HXl HXi
  unfold qV at HQ1 HQ2
  go_wp2_with fail
  try rw [← HVd.out]
  try rw [← HKd.out]
  try rw [← HLd.out]
  obtain ⟨fr, till, ms, ⟨t0, t1, t2, t3⟩, desc, lim⟩ := q
  dsimp only at *
  have HB0 : Aside0 (Below V.heap.size V V) := ⟨Below.refl _ _⟩
  clear HVd HKd HLd
  go_loopw [25] (fun t25 wr => ∃ i : Nat, i ≤ ms.length ∧ t25 = .int .i64 (i : Int) ∧ Aside0 (Below V.heap.size V wr)) (fun t25 _ => ms.length - (intOf t25).toNat)
  case atStart => exact ⟨0, Nat.zero_le _, rfl, HB0⟩
  case round =>
    clear HB0
    obtain ⟨i, hi, rfl, HBl⟩ := hrel
    by_cases hlt : i < ms.length
    · obtain ⟨ad, hA, k0, k1, k2⟩ := at_T51 (MR.out wr HBl.out) (i : Int) (by omega) (by omega)
      rw [at_m hlt] at k0 k1 k2
      rw [Int.toNat_natCast] at k0 k1 k2
      subst hA
      obtain ⟨y, hy⟩ : ∃ y, y = ms[i] := ⟨_, rfl⟩
      rw [← hy] at k0 k1 k2
      clear hy
      obtain ⟨V2, hV2⟩ : ∃ V2, V2 = wr.alloc (.cells #[.string y.f0, .bool y.f1, .string y.f2] 51) := ⟨_, rfl⟩
      obtain ⟨j, hj⟩ : ∃ j, j = wr.heap.size := ⟨_, rfl⟩
      have hb5 : Below wr.heap.size wr V2 := by rw [hV2]; exact below_alloc (Below.refl _ _) _
      have XM : Aside0 (BoxM V2 j y) := ⟨by rw [hV2, hj]; exact Go.heap_alloc_new _ _⟩
      have HBS := Aside0.mk (below_step HBl.out hb5)
      have XE := Aside0.mk (EC.out V2 HBS.out)
      have HVd := Aside0.mk hV2
      have HKd := Aside0.mk hj
      have Hlt := Aside0.mk hlt
      obtain ⟨r, hr⟩ : ∃ r, r = mtB x y := ⟨_, rfl⟩
      have HY1 : Aside0 (∀ V', Below V.heap.size V V' → Calls Tryd.prog 31 #[.agg #[.string y.f0, .bool y.f1, .string y.f2], .agg #[.int .i64 x.at_, .slice x.A x.ls.length x.c, .string x.line]] V' fun e w' => e = .returned (.bool r) ∧ Below V'.heap.size V' w') := ⟨fun V' h => by rw [hr]; exact HLab.out y V' h⟩
      have HY2 : Aside0 (∀ V', Below V.heap.size V V' → Calls Tryd.prog 32 #[.agg #[.string y.f0, .bool y.f1, .string y.f2], .agg #[.int .i64 x.at_, .slice x.A x.ls.length x.c, .string x.line]] V' fun e w' => e = .returned (.bool r) ∧ Below V'.heap.size V' w') := ⟨fun V' h => by rw [hr]; exact HRLab.out y V' h⟩
      clear hV2 hj hb5 hr HLab HRLab HL1 HL2 HS1 HS2 HQ1 HQ2 hi
      go_wp2_with fail
      try rw [← HVd.out]
      try rw [← HKd.out]
      clear k0 k1 k2 HVd HKd hlt
      have HB : Aside0 (Below V2.heap.size V2 V2) := ⟨Below.refl _ _⟩
      refine start_ (n := 7) (S := fun x_ => Below V2.heap.size V2 x_) (ds := []) #[false, false, false, false, false, false, false] (by kernel_rfl) rfl rfl (pw_below_drewN (Below.refl _ _) 1) (fun hHeld => ?_)
      refine with_tabW tab_magpielaw09_MatchIs_9 bits_magpielaw09_MatchIs_9 (fun HT_ HW_ => ?_)
      have HB := Aside0.mk (pw_below_drewN HB.out 1)
      change Aside0 (Below _ _ (World.drew V2)) at HB
      change Below _ _ (World.drew V2) at hHeld
      have hSz : (World.drew V2).heap.size = V2.heap.size := rfl
      have XM := Aside0.mk (show BoxM (World.drew V2) j y from XM.out)
      have XE := Aside0.mk (show BoxE (World.drew V2) be x from XE.out)
      have HBS := Aside0.mk (show Below V.heap.size V (World.drew V2) from pw_below_drewN HBS.out 1)
      refine wpAnyLast_str (S' := fun x_ => Below (World.drew V2).heap.size (World.drew V2) x_) (fun x_ hx_ => below_step hHeld hx_) (Below.refl _ _) ?_
      clear hHeld hSz
      generalize World.drew V2 = V2d at *
      have HS := Aside0.mk (Below.refl V2d.heap.size V2d)
      refine take_ (i := 0) (N := (some 29)) (v := ?_) (a' := ?_) #[true, false, false, false, false, false, false] rfl rfl (take_ofW HT_.out HW_.out (by kernel_rfl)) (fun _ _ _ h => h) (Or.inl ⟨by rfl, ?_⟩) (Below.refl _ _) ?_ ?_
      rotate_left
      · intro Wx hWx
        obtain ⟨m0, m1, m2⟩ := (XM.out.below hWx).cells
        go_simp
        try with_reducible rfl
      rotate_left
      · simp only [Act.put, List.setIfInBounds_toArray, List.set_cons_zero, List.set_cons_succ, i64_w, i32_w]
        rfl
      refine take_ (i := 1) (N := (some 30)) (v := ?_) (a' := ?_) #[true, true, false, false, false, false, false] rfl rfl (take_ofW HT_.out HW_.out (by kernel_rfl)) (fun _ _ _ h => h) (Or.inl ⟨by rfl, ?_⟩) (Below.refl _ _) ?_ ?_
      rotate_left
      · intro Wx hWx
        obtain ⟨m0, m1, m2⟩ := BoxE.cells (XE.out.below hWx)
        go_simp
        try with_reducible rfl
      rotate_left
      · simp only [Act.put, List.setIfInBounds_toArray, List.set_cons_zero, List.set_cons_succ, i64_w, i32_w]
        rfl
      refine take_ (i := 3) (N := (some 32)) (v := ?_) (a' := ?_) #[true, true, false, true, false, false, false] rfl rfl (take_ofW HT_.out HW_.out (by kernel_rfl)) (fun _ _ _ h => h) (Or.inl ⟨by rfl, ?_⟩) (Below.refl _ _) ?_ ?_
      rotate_left
      · intro Wx hWx
        obtain ⟨m0, m1, m2⟩ := (XM.out.below hWx).cells
        go_simp
        try with_reducible rfl
      rotate_left
      · simp only [Act.put, List.setIfInBounds_toArray, List.set_cons_zero, List.set_cons_succ, i64_w, i32_w]
        rfl
      refine take_ (i := 4) (N := (some 33)) (v := ?_) (a' := ?_) #[true, true, false, true, true, false, false] rfl rfl (take_ofW HT_.out HW_.out (by kernel_rfl)) (fun _ _ _ h => h) (Or.inl ⟨by rfl, ?_⟩) (Below.refl _ _) ?_ ?_
      rotate_left
      · intro Wx hWx
        obtain ⟨m0, m1, m2⟩ := BoxE.cells (XE.out.below hWx)
        go_simp
        try with_reducible rfl
      rotate_left
      · simp only [Act.put, List.setIfInBounds_toArray, List.set_cons_zero, List.set_cons_succ, i64_w, i32_w]
        rfl
      refine one_ (i := 2) (N := (some 31)) #[true, true, true, true, true, false, false] rfl rfl (one_of HT_.out (by kernel_rfl)) (by decide) (fun K hK => ?_)
      refine goes_ Tryd.func31 (by kernel_rfl) rfl #[.agg #[.string y.f0, .bool y.f1, .string y.f2], .agg #[.int .i64 x.at_, .slice x.A x.ls.length x.c, .string x.line]] (by rfl) rfl rfl (by (try simp only [List.map_toArray, List.map_cons, List.map_nil]); first | done | rfl) ?_
      refine (HY1.out _ HBS.out).mono ?_
      rintro e w9_2 ⟨rfl, hb_1⟩
      refine ⟨_, rfl, ?_⟩
      have XM := Aside0.mk (XM.out.below hb_1)
      have XE := Aside0.mk (XE.out.below hb_1)
      have HBS := Aside0.mk (below_step HBS.out hb_1)
      have hb_ : Below V2d.heap.size V2d w9_2 := hb_1
      have HB := Aside0.mk (below_step HB.out hb_)
      refine hK.out _ _ hb_ (fun hHeld => ?_)
      clear hK K
      refine wpAnyLast_str (S' := fun x_ => Below w9_2.heap.size w9_2 x_) (fun x_ hx_ => below_step hHeld hx_) (Below.refl _ _) ?_
      clear hHeld
      (try clear hb)
      clear hb_
      have HS := Aside0.mk (Below.refl w9_2.heap.size w9_2)
      refine norm_ (a' := ?_) ?_ ?_
      rotate_left
      · show Act.put _ (some 31) _ = _
        simp only [Act.put, List.setIfInBounds_toArray, List.set_cons_zero, List.set_cons_succ, i64_w, i32_w]
        rfl
      refine one_ (i := 5) (N := (some 34)) #[true, true, true, true, true, true, false] rfl rfl (one_of HT_.out (by kernel_rfl)) (by decide) (fun K hK => ?_)
      refine goes_ Tryd.func32 (by kernel_rfl) rfl #[.agg #[.string y.f0, .bool y.f1, .string y.f2], .agg #[.int .i64 x.at_, .slice x.A x.ls.length x.c, .string x.line]] (by rfl) rfl rfl (by (try simp only [List.map_toArray, List.map_cons, List.map_nil]); first | done | rfl) ?_
      refine (HY2.out _ HBS.out).mono ?_
      rintro e w9_5 ⟨rfl, hb_1⟩
      refine ⟨_, rfl, ?_⟩
      have HBS := Aside0.mk (below_step HBS.out hb_1)
      have hb_ : Below w9_2.heap.size w9_2 w9_5 := hb_1
      have HB := Aside0.mk (below_step HB.out hb_)
      refine hK.out _ _ hb_ (fun hHeld => ?_)
      clear hK K
      refine wpAnyLast_str (S' := fun x_ => Below w9_5.heap.size w9_5 x_) (fun x_ hx_ => below_step hHeld hx_) (Below.refl _ _) ?_
      clear hHeld
      (try clear hb)
      clear hb_
      have HS := Aside0.mk (Below.refl w9_5.heap.size w9_5)
      refine norm_ (a' := ?_) ?_ ?_
      rotate_left
      · show Act.put _ (some 34) _ = _
        simp only [Act.put, List.setIfInBounds_toArray, List.set_cons_zero, List.set_cons_succ, i64_w, i32_w]
        rfl
      refine pure_ (i := 6) (N := (some 35)) (v := ?_) (a' := ?_) #[true, true, true, true, true, true, true] rfl rfl (any_of HT_.out (by kernel_rfl)) (fun _ _ _ h => h) (Or.inl ⟨by rfl, ?_⟩) ?_ ?_
      rotate_left
      · intro w_
        go_simp
        try with_reducible rfl
      rotate_left
      · simp only [Act.put, List.setIfInBounds_toArray, List.set_cons_zero, List.set_cons_succ, i64_w, i32_w]
        rfl
      refine done_ (done_of HT_.out (by kernel_rfl)) ?_
      cases r with
      | true =>
        go_wp2
        go_roundw
        case rel => exact ⟨i + 1, by have := Hlt.out; omega, by rw [w64q _ (by have := Hlt.out; have := MF.out; omega)]; rfl, HBS⟩
        case measure => have h1 := Hlt.out; have h2 := MF.out; rw [w64q _ (by omega)]; simp [intOf]; omega
      | false =>
        go_wp2
        go_roundw
        case rel => exact ⟨i + 1, by have := Hlt.out; omega, by rw [w64q _ (by have := Hlt.out; have := MF.out; omega)]; rfl, HBS⟩
        case measure => have h1 := Hlt.out; have h2 := MF.out; rw [w64q _ (by omega)]; simp [intOf]; omega
    · obtain rfl : i = ms.length := by omega
      obtain ⟨V2, hV2⟩ : ∃ V2, V2 = wr := ⟨_, rfl⟩
      subst hV2
      have HBS := HBl
      have XE := Aside0.mk (EC.out V2 HBS.out)
      have XF := Aside0.mk (FC.out V2 HBS.out)
      have XQ := Aside0.mk (QC.out V2 HBS.out)
      clear HBl hlt hi EC QC FC MR HLab HRLab
      go_wp2_with fail
      have HB2 := HB
      have HB : Aside0 (Below V2.heap.size V2 V2) := ⟨Below.refl _ _⟩
      refine start_ (n := 30) (S := fun x_ => Below V2.heap.size V2 x_) (ds := []) #[false, false, false, false, false, false, false, false, false, false, false, false, false, false, false, false, false, false, false, false, false, false, false, false, false, false, false, false, false, false] (by kernel_rfl) rfl rfl (pw_below_drewN (Below.refl _ _) 1) (fun hHeld => ?_)
      refine with_tabW tab_magpielaw09_MatchIs_12 bits_magpielaw09_MatchIs_12 (fun HT_ HW_ => ?_)
      have HB := Aside0.mk (pw_below_drewN HB.out 1)
      change Aside0 (Below _ _ (World.drew V2)) at HB
      change Below _ _ (World.drew V2) at hHeld
      have hSz : (World.drew V2).heap.size = V2.heap.size := rfl
      have XE := Aside0.mk (show BoxE (World.drew V2) be x from XE.out)
      have XF := Aside0.mk (show BoxF (World.drew V2) bf T AT cT from XF.out)
      have XQ := Aside0.mk (show BoxQ (World.drew V2) bq _ A1 c1 A2 c2 from XQ.out)
      have HBS := Aside0.mk (show Below V.heap.size V (World.drew V2) from pw_below_drewN HBS.out 1)
      refine wpAnyLast_str (S' := fun x_ => Below (World.drew V2).heap.size (World.drew V2) x_) (fun x_ hx_ => below_step hHeld hx_) (Below.refl _ _) ?_
      clear hHeld hSz
      generalize World.drew V2 = V2d at *
      have HS := Aside0.mk (Below.refl V2d.heap.size V2d)
      refine pure_ (i := 1) (N := (some 38)) (v := ?_) (a' := ?_) #[false, true, false, false, false, false, false, false, false, false, false, false, false, false, false, false, false, false, false, false, false, false, false, false, false, false, false, false, false, false] rfl rfl (any_of HT_.out (by kernel_rfl)) (fun _ _ _ h => h) (Or.inl ⟨by rfl, ?_⟩) ?_ ?_
      rotate_left
      · intro w_
        go_simp
        (try simp only [beq_self_eq_true])
        try with_reducible rfl
      rotate_left
      · simp only [Act.put, List.setIfInBounds_toArray, List.set_cons_zero, List.set_cons_succ, i64_w, i32_w]
        rfl
      refine pure_ (i := 5) (N := (some 42)) (v := ?_) (a' := ?_) #[false, true, false, false, false, true, false, false, false, false, false, false, false, false, false, false, false, false, false, false, false, false, false, false, false, false, false, false, false, false] rfl rfl (any_of HT_.out (by kernel_rfl)) (fun _ _ _ h => h) (Or.inl ⟨by rfl, ?_⟩) ?_ ?_
      rotate_left
      · intro w_
        go_simp
        (try simp only [beq_self_eq_true])
        try with_reducible rfl
      rotate_left
      · simp only [Act.put, List.setIfInBounds_toArray, List.set_cons_zero, List.set_cons_succ, i64_w, i32_w]
        rfl
      refine take_ (i := 0) (N := (some 37)) (v := ?_) (a' := ?_) #[true, true, false, false, false, true, false, false, false, false, false, false, false, false, false, false, false, false, false, false, false, false, false, false, false, false, false, false, false, false] rfl rfl (take_ofW HT_.out HW_.out (by kernel_rfl)) (fun _ _ _ h => h) (Or.inl ⟨by rfl, ?_⟩) (Below.refl _ _) ?_ ?_
      rotate_left
      · intro Wx hWx
        obtain ⟨m0, m1, m2, m3⟩ := (XF.out.below hWx).cells
        go_simp
        try with_reducible rfl
      rotate_left
      · simp only [Act.put, List.setIfInBounds_toArray, List.set_cons_zero, List.set_cons_succ, i64_w, i32_w]
        rfl
      refine take_ (i := 2) (N := (some 39)) (v := ?_) (a' := ?_) #[true, true, true, false, false, true, false, false, false, false, false, false, false, false, false, false, false, false, false, false, false, false, false, false, false, false, false, false, false, false] rfl rfl (take_ofW HT_.out HW_.out (by kernel_rfl)) (fun _ _ _ h => h) (Or.inl ⟨by rfl, ?_⟩) (Below.refl _ _) ?_ ?_
      rotate_left
      · intro Wx hWx
        obtain ⟨m0, m1, m2⟩ := BoxE.cells (XE.out.below hWx)
        go_simp
        try with_reducible rfl
      rotate_left
      · simp only [Act.put, List.setIfInBounds_toArray, List.set_cons_zero, List.set_cons_succ, i64_w, i32_w]
        rfl
      refine take_ (i := 4) (N := (some 41)) (v := ?_) (a' := ?_) #[true, true, true, false, true, true, false, false, false, false, false, false, false, false, false, false, false, false, false, false, false, false, false, false, false, false, false, false, false, false] rfl rfl (take_ofW HT_.out HW_.out (by kernel_rfl)) (fun _ _ _ h => h) (Or.inl ⟨by rfl, ?_⟩) (Below.refl _ _) ?_ ?_
      rotate_left
      · intro Wx hWx
        obtain ⟨m0, m1, m2, m3⟩ := (XF.out.below hWx).cells
        go_simp
        try with_reducible rfl
      rotate_left
      · simp only [Act.put, List.setIfInBounds_toArray, List.set_cons_zero, List.set_cons_succ, i64_w, i32_w]
        rfl
      refine take_ (i := 6) (N := (some 43)) (v := ?_) (a' := ?_) #[true, true, true, false, true, true, true, false, false, false, false, false, false, false, false, false, false, false, false, false, false, false, false, false, false, false, false, false, false, false] rfl rfl (take_ofW HT_.out HW_.out (by kernel_rfl)) (fun _ _ _ h => h) (Or.inl ⟨by rfl, ?_⟩) (Below.refl _ _) ?_ ?_
      rotate_left
      · intro Wx hWx
        obtain ⟨m0, m1, m2⟩ := BoxE.cells (XE.out.below hWx)
        go_simp
        try with_reducible rfl
      rotate_left
      · simp only [Act.put, List.setIfInBounds_toArray, List.set_cons_zero, List.set_cons_succ, i64_w, i32_w]
        rfl
      refine one_ (i := 3) (N := (some 40)) #[true, true, true, true, true, true, true, false, false, false, false, false, false, false, false, false, false, false, false, false, false, false, false, false, false, false, false, false, false, false] rfl rfl (one_of HT_.out (by kernel_rfl)) (by decide) (fun K hK => ?_)
      refine goes_ Tryd.func27 (by kernel_rfl) rfl #[.agg #[.int .i64 T.f0, .string T.f1, .string T.f2, .slice AT T.f3.length cT], .string x.line] (by rfl) rfl rfl (by (try simp only [List.map_toArray, List.map_cons, List.map_nil]); first | done | rfl) ?_
      refine (HL1.out _ HBS.out).mono ?_
      rintro e w12_3 ⟨rfl, hb_1⟩
      refine ⟨_, rfl, ?_⟩
      have XE := Aside0.mk (XE.out.below hb_1)
      have XF := Aside0.mk (XF.out.below hb_1)
      have XQ := Aside0.mk (XQ.out.below hb_1)
      have HBS := Aside0.mk (below_step HBS.out hb_1)
      have hb_ : Below V2d.heap.size V2d w12_3 := hb_1
      have HB := Aside0.mk (below_step HB.out hb_)
      refine hK.out _ _ hb_ (fun hHeld => ?_)
      clear hK K
      refine wpAnyLast_str (S' := fun x_ => Below w12_3.heap.size w12_3 x_) (fun x_ hx_ => below_step hHeld hx_) (Below.refl _ _) ?_
      clear hHeld
      (try clear hb)
      clear hb_
      have HS := Aside0.mk (Below.refl w12_3.heap.size w12_3)
      refine norm_ (a' := ?_) ?_ ?_
      rotate_left
      · show Act.put _ (some 40) _ = _
        simp only [Act.put, List.setIfInBounds_toArray, List.set_cons_zero, List.set_cons_succ, i64_w, i32_w]
        rfl
      refine one_ (i := 7) (N := (some 44)) #[true, true, true, true, true, true, true, true, false, false, false, false, false, false, false, false, false, false, false, false, false, false, false, false, false, false, false, false, false, false] rfl rfl (one_of HT_.out (by kernel_rfl)) (by decide) (fun K hK => ?_)
      refine goes_ Tryd.func28 (by kernel_rfl) rfl #[.agg #[.int .i64 T.f0, .string T.f1, .string T.f2, .slice AT T.f3.length cT], .string x.line] (by rfl) rfl rfl (by (try simp only [List.map_toArray, List.map_cons, List.map_nil]); first | done | rfl) ?_
      refine (HL2.out _ HBS.out).mono ?_
      rintro e w12_7 ⟨rfl, hb_1⟩
      refine ⟨_, rfl, ?_⟩
      have XE := Aside0.mk (XE.out.below hb_1)
      have XQ := Aside0.mk (XQ.out.below hb_1)
      have HBS := Aside0.mk (below_step HBS.out hb_1)
      have hb_ : Below w12_3.heap.size w12_3 w12_7 := hb_1
      have HB := Aside0.mk (below_step HB.out hb_)
      refine hK.out _ _ hb_ (fun hHeld => ?_)
      clear hK K
      refine wpAnyLast_str (S' := fun x_ => Below w12_7.heap.size w12_7 x_) (fun x_ hx_ => below_step hHeld hx_) (Below.refl _ _) ?_
      clear hHeld
      (try clear hb)
      clear hb_
      have HS := Aside0.mk (Below.refl w12_7.heap.size w12_7)
      refine norm_ (a' := ?_) ?_ ?_
      rotate_left
      · show Act.put _ (some 44) _ = _
        simp only [Act.put, List.setIfInBounds_toArray, List.set_cons_zero, List.set_cons_succ, i64_w, i32_w]
        rfl
      refine pure_ (i := 8) (N := (some 45)) (v := ?_) (a' := ?_) #[true, true, true, true, true, true, true, true, true, false, false, false, false, false, false, false, false, false, false, false, false, false, false, false, false, false, false, false, false, false] rfl rfl (any_of HT_.out (by kernel_rfl)) (fun _ _ _ h => h) (Or.inl ⟨by rfl, ?_⟩) ?_ ?_
      rotate_left
      · intro w_
        go_simp
        (try simp only [beq_self_eq_true])
        try with_reducible rfl
      rotate_left
      · simp only [Act.put, List.setIfInBounds_toArray, List.set_cons_zero, List.set_cons_succ, i64_w, i32_w]
        rfl
      refine pure_ (i := 9) (N := (some 46)) (v := ?_) (a' := ?_) #[true, true, true, true, true, true, true, true, true, true, false, false, false, false, false, false, false, false, false, false, false, false, false, false, false, false, false, false, false, false] rfl rfl (any_of HT_.out (by kernel_rfl)) (fun _ _ _ h => h) (Or.inl ⟨by rfl, ?_⟩) ?_ ?_
      rotate_left
      · intro w_
        go_simp
        (try simp only [beq_self_eq_true])
        try with_reducible rfl
      rotate_left
      · simp only [Act.put, List.setIfInBounds_toArray, List.set_cons_zero, List.set_cons_succ, i64_w, i32_w]
        rfl
      refine pure_ (i := 10) (N := (some 47)) (v := ?_) (a' := ?_) #[true, true, true, true, true, true, true, true, true, true, true, false, false, false, false, false, false, false, false, false, false, false, false, false, false, false, false, false, false, false] rfl rfl (any_of HT_.out (by kernel_rfl)) (fun _ _ _ h => h) (Or.inl ⟨by rfl, ?_⟩) ?_ ?_
      rotate_left
      · intro w_
        go_simp
        (try simp only [beq_self_eq_true])
        try with_reducible rfl
      rotate_left
      · simp only [Act.put, List.setIfInBounds_toArray, List.set_cons_zero, List.set_cons_succ, i64_w, i32_w]
        rfl
      refine pure_ (i := 14) (N := (some 51)) (v := ?_) (a' := ?_) #[true, true, true, true, true, true, true, true, true, true, true, false, false, false, true, false, false, false, false, false, false, false, false, false, false, false, false, false, false, false] rfl rfl (any_of HT_.out (by kernel_rfl)) (fun _ _ _ h => h) (Or.inl ⟨by rfl, ?_⟩) ?_ ?_
      rotate_left
      · intro w_
        go_simp
        (try simp only [beq_self_eq_true])
        try with_reducible rfl
      rotate_left
      · simp only [Act.put, List.setIfInBounds_toArray, List.set_cons_zero, List.set_cons_succ, i64_w, i32_w]
        rfl
      refine take_ (i := 11) (N := (some 48)) (v := ?_) (a' := ?_) #[true, true, true, true, true, true, true, true, true, true, true, true, false, false, true, false, false, false, false, false, false, false, false, false, false, false, false, false, false, false] rfl rfl (take_ofW HT_.out HW_.out (by kernel_rfl)) (fun _ _ _ h => h) (Or.inl ⟨by rfl, ?_⟩) (Below.refl _ _) ?_ ?_
      rotate_left
      · intro Wx hWx
        obtain ⟨m0, m1, m2, m3, m4, m5, m6, m7, m8, m9⟩ := (XQ.out.below hWx).cells
        dsimp only at m0 m1 m2 m3 m4 m5 m6 m7 m8 m9
        go_simp
        try with_reducible rfl
      rotate_left
      · simp only [Act.put, List.setIfInBounds_toArray, List.set_cons_zero, List.set_cons_succ, i64_w, i32_w]
        rfl
      refine take_ (i := 12) (N := (some 49)) (v := ?_) (a' := ?_) #[true, true, true, true, true, true, true, true, true, true, true, true, true, false, true, false, false, false, false, false, false, false, false, false, false, false, false, false, false, false] rfl rfl (take_ofW HT_.out HW_.out (by kernel_rfl)) (fun _ _ _ h => h) (Or.inl ⟨by rfl, ?_⟩) (Below.refl _ _) ?_ ?_
      rotate_left
      · intro Wx hWx
        obtain ⟨m0, m1, m2⟩ := BoxE.cells (XE.out.below hWx)
        go_simp
        try with_reducible rfl
      rotate_left
      · simp only [Act.put, List.setIfInBounds_toArray, List.set_cons_zero, List.set_cons_succ, i64_w, i32_w]
        rfl
      refine take_ (i := 15) (N := (some 52)) (v := ?_) (a' := ?_) #[true, true, true, true, true, true, true, true, true, true, true, true, true, false, true, true, false, false, false, false, false, false, false, false, false, false, false, false, false, false] rfl rfl (take_ofW HT_.out HW_.out (by kernel_rfl)) (fun _ _ _ h => h) (Or.inl ⟨by rfl, ?_⟩) (Below.refl _ _) ?_ ?_
      rotate_left
      · intro Wx hWx
        obtain ⟨m0, m1, m2, m3, m4, m5, m6, m7, m8, m9⟩ := (XQ.out.below hWx).cells
        dsimp only at m0 m1 m2 m3 m4 m5 m6 m7 m8 m9
        go_simp
        try with_reducible rfl
      rotate_left
      · simp only [Act.put, List.setIfInBounds_toArray, List.set_cons_zero, List.set_cons_succ, i64_w, i32_w]
        rfl
      refine take_ (i := 16) (N := (some 53)) (v := ?_) (a' := ?_) #[true, true, true, true, true, true, true, true, true, true, true, true, true, false, true, true, true, false, false, false, false, false, false, false, false, false, false, false, false, false] rfl rfl (take_ofW HT_.out HW_.out (by kernel_rfl)) (fun _ _ _ h => h) (Or.inl ⟨by rfl, ?_⟩) (Below.refl _ _) ?_ ?_
      rotate_left
      · intro Wx hWx
        obtain ⟨m0, m1, m2⟩ := BoxE.cells (XE.out.below hWx)
        go_simp
        try with_reducible rfl
      rotate_left
      · simp only [Act.put, List.setIfInBounds_toArray, List.set_cons_zero, List.set_cons_succ, i64_w, i32_w]
        rfl
      refine one_ (i := 13) (N := (some 50)) #[true, true, true, true, true, true, true, true, true, true, true, true, true, true, true, true, true, false, false, false, false, false, false, false, false, false, false, false, false, false] rfl rfl (one_of HT_.out (by kernel_rfl)) (by decide) (fun K hK => ?_)
      refine goes_ Tryd.func33 (by kernel_rfl) rfl #[.slice A1 ms.length c1, .agg #[.int .i64 x.at_, .slice x.A x.ls.length x.c, .string x.line]] (by rfl) rfl rfl (by (try simp only [List.map_toArray, List.map_cons, List.map_nil]); first | done | rfl) ?_
      refine (HS1.out _ HBS.out).mono ?_
      rintro e w12_13 ⟨rfl, hb_1⟩
      refine ⟨_, rfl, ?_⟩
      have XE := Aside0.mk (XE.out.below hb_1)
      have XQ := Aside0.mk (XQ.out.below hb_1)
      have HBS := Aside0.mk (below_step HBS.out hb_1)
      have hb_ : Below w12_7.heap.size w12_7 w12_13 := hb_1
      have HB := Aside0.mk (below_step HB.out hb_)
      refine hK.out _ _ hb_ (fun hHeld => ?_)
      clear hK K
      refine wpAnyLast_str (S' := fun x_ => Below w12_13.heap.size w12_13 x_) (fun x_ hx_ => below_step hHeld hx_) (Below.refl _ _) ?_
      clear hHeld
      (try clear hb)
      clear hb_
      have HS := Aside0.mk (Below.refl w12_13.heap.size w12_13)
      refine norm_ (a' := ?_) ?_ ?_
      rotate_left
      · show Act.put _ (some 50) _ = _
        simp only [Act.put, List.setIfInBounds_toArray, List.set_cons_zero, List.set_cons_succ, i64_w, i32_w]
        rfl
      refine one_ (i := 17) (N := (some 54)) #[true, true, true, true, true, true, true, true, true, true, true, true, true, true, true, true, true, true, false, false, false, false, false, false, false, false, false, false, false, false] rfl rfl (one_of HT_.out (by kernel_rfl)) (by decide) (fun K hK => ?_)
      refine goes_ Tryd.func34 (by kernel_rfl) rfl #[.slice A1 ms.length c1, .agg #[.int .i64 x.at_, .slice x.A x.ls.length x.c, .string x.line]] (by rfl) rfl rfl (by (try simp only [List.map_toArray, List.map_cons, List.map_nil]); first | done | rfl) ?_
      refine (HS2.out _ HBS.out).mono ?_
      rintro e w12_17 ⟨rfl, hb_1⟩
      refine ⟨_, rfl, ?_⟩
      have XE := Aside0.mk (XE.out.below hb_1)
      have XQ := Aside0.mk (XQ.out.below hb_1)
      have HBS := Aside0.mk (below_step HBS.out hb_1)
      have hb_ : Below w12_13.heap.size w12_13 w12_17 := hb_1
      have HB := Aside0.mk (below_step HB.out hb_)
      refine hK.out _ _ hb_ (fun hHeld => ?_)
      clear hK K
      refine wpAnyLast_str (S' := fun x_ => Below w12_17.heap.size w12_17 x_) (fun x_ hx_ => below_step hHeld hx_) (Below.refl _ _) ?_
      clear hHeld
      (try clear hb)
      clear hb_
      have HS := Aside0.mk (Below.refl w12_17.heap.size w12_17)
      refine norm_ (a' := ?_) ?_ ?_
      rotate_left
      · show Act.put _ (some 54) _ = _
        simp only [Act.put, List.setIfInBounds_toArray, List.set_cons_zero, List.set_cons_succ, i64_w, i32_w]
        rfl
      refine pure_ (i := 18) (N := (some 55)) (v := ?_) (a' := ?_) #[true, true, true, true, true, true, true, true, true, true, true, true, true, true, true, true, true, true, true, false, false, false, false, false, false, false, false, false, false, false] rfl rfl (any_of HT_.out (by kernel_rfl)) (fun _ _ _ h => h) (Or.inl ⟨by rfl, ?_⟩) ?_ ?_
      rotate_left
      · intro w_
        go_simp
        (try simp only [beq_self_eq_true])
        try with_reducible rfl
      rotate_left
      · simp only [Act.put, List.setIfInBounds_toArray, List.set_cons_zero, List.set_cons_succ, i64_w, i32_w]
        rfl
      refine pure_ (i := 19) (N := (some 56)) (v := ?_) (a' := ?_) #[true, true, true, true, true, true, true, true, true, true, true, true, true, true, true, true, true, true, true, true, false, false, false, false, false, false, false, false, false, false] rfl rfl (any_of HT_.out (by kernel_rfl)) (fun _ _ _ h => h) (Or.inl ⟨by rfl, ?_⟩) ?_ ?_
      rotate_left
      · intro w_
        go_simp
        (try simp only [beq_self_eq_true])
        try with_reducible rfl
      rotate_left
      · simp only [Act.put, List.setIfInBounds_toArray, List.set_cons_zero, List.set_cons_succ, i64_w, i32_w]
        rfl
      refine pure_ (i := 20) (N := (some 57)) (v := ?_) (a' := ?_) #[true, true, true, true, true, true, true, true, true, true, true, true, true, true, true, true, true, true, true, true, true, false, false, false, false, false, false, false, false, false] rfl rfl (any_of HT_.out (by kernel_rfl)) (fun _ _ _ h => h) (Or.inl ⟨by rfl, ?_⟩) ?_ ?_
      rotate_left
      · intro w_
        go_simp
        (try simp only [beq_self_eq_true])
        try with_reducible rfl
      rotate_left
      · simp only [Act.put, List.setIfInBounds_toArray, List.set_cons_zero, List.set_cons_succ, i64_w, i32_w]
        rfl
      refine take_ (i := 21) (N := (some 58)) (v := ?_) (a' := ?_) #[true, true, true, true, true, true, true, true, true, true, true, true, true, true, true, true, true, true, true, true, true, true, false, false, false, false, false, false, false, false] rfl rfl (take_ofW HT_.out HW_.out (by kernel_rfl)) (fun _ _ _ h => h) (Or.inl ⟨by rfl, ?_⟩) (Below.refl _ _) ?_ ?_
      rotate_left
      · intro Wx hWx
        obtain ⟨m0, m1, m2, m3, m4, m5, m6, m7, m8, m9⟩ := (XQ.out.below hWx).cells
        dsimp only at m0 m1 m2 m3 m4 m5 m6 m7 m8 m9
        go_simp
        try with_reducible rfl
      rotate_left
      · simp only [Act.put, List.setIfInBounds_toArray, List.set_cons_zero, List.set_cons_succ, i64_w, i32_w]
        rfl
      refine take_ (i := 22) (N := (some 59)) (v := ?_) (a' := ?_) #[true, true, true, true, true, true, true, true, true, true, true, true, true, true, true, true, true, true, true, true, true, true, true, false, false, false, false, false, false, false] rfl rfl (take_ofW HT_.out HW_.out (by kernel_rfl)) (fun _ _ _ h => h) (Or.inl ⟨by rfl, ?_⟩) (Below.refl _ _) ?_ ?_
      rotate_left
      · intro Wx hWx
        obtain ⟨m0, m1, m2⟩ := BoxE.cells (XE.out.below hWx)
        go_simp
        try with_reducible rfl
      rotate_left
      · simp only [Act.put, List.setIfInBounds_toArray, List.set_cons_zero, List.set_cons_succ, i64_w, i32_w]
        rfl
      refine take_ (i := 24) (N := (some 61)) (v := ?_) (a' := ?_) #[true, true, true, true, true, true, true, true, true, true, true, true, true, true, true, true, true, true, true, true, true, true, true, false, true, false, false, false, false, false] rfl rfl (take_ofW HT_.out HW_.out (by kernel_rfl)) (fun _ _ _ h => h) (Or.inl ⟨by rfl, ?_⟩) (Below.refl _ _) ?_ ?_
      rotate_left
      · intro Wx hWx
        obtain ⟨m0, m1, m2, m3, m4, m5, m6, m7, m8, m9⟩ := (XQ.out.below hWx).cells
        dsimp only at m0 m1 m2 m3 m4 m5 m6 m7 m8 m9
        go_simp
        try with_reducible rfl
      rotate_left
      · simp only [Act.put, List.setIfInBounds_toArray, List.set_cons_zero, List.set_cons_succ, i64_w, i32_w]
        rfl
      refine take_ (i := 25) (N := (some 62)) (v := ?_) (a' := ?_) #[true, true, true, true, true, true, true, true, true, true, true, true, true, true, true, true, true, true, true, true, true, true, true, false, true, true, false, false, false, false] rfl rfl (take_ofW HT_.out HW_.out (by kernel_rfl)) (fun _ _ _ h => h) (Or.inl ⟨by rfl, ?_⟩) (Below.refl _ _) ?_ ?_
      rotate_left
      · intro Wx hWx
        obtain ⟨m0, m1, m2⟩ := BoxE.cells (XE.out.below hWx)
        go_simp
        try with_reducible rfl
      rotate_left
      · simp only [Act.put, List.setIfInBounds_toArray, List.set_cons_zero, List.set_cons_succ, i64_w, i32_w]
        rfl
      refine one_ (i := 23) (N := (some 60)) #[true, true, true, true, true, true, true, true, true, true, true, true, true, true, true, true, true, true, true, true, true, true, true, true, true, true, false, false, false, false] rfl rfl (one_of HT_.out (by kernel_rfl)) (by decide) (fun K hK => ?_)
      refine goes_ Tryd.func35 (by kernel_rfl) rfl #[.agg #[.int .i64 fr, .int .i64 till, .slice A1 ms.length c1, .int .i64 t0, .string t1, .string t2, .slice A2 t3.length c2, .bool desc, .int .i64 lim, .string ⟨#[]⟩], .agg #[.int .i64 x.at_, .slice x.A x.ls.length x.c, .string x.line]] (by rfl) rfl rfl (by (try simp only [List.map_toArray, List.map_cons, List.map_nil]); first | done | rfl) ?_
      refine (HQ1.out _ HBS.out).mono ?_
      rintro e w12_23 ⟨rfl, hb_1⟩
      refine ⟨_, rfl, ?_⟩
      have XE := Aside0.mk (XE.out.below hb_1)
      have XQ := Aside0.mk (XQ.out.below hb_1)
      have HBS := Aside0.mk (below_step HBS.out hb_1)
      have hb_ : Below w12_17.heap.size w12_17 w12_23 := hb_1
      have HB := Aside0.mk (below_step HB.out hb_)
      refine hK.out _ _ hb_ (fun hHeld => ?_)
      clear hK K
      refine wpAnyLast_str (S' := fun x_ => Below w12_23.heap.size w12_23 x_) (fun x_ hx_ => below_step hHeld hx_) (Below.refl _ _) ?_
      clear hHeld
      (try clear hb)
      clear hb_
      have HS := Aside0.mk (Below.refl w12_23.heap.size w12_23)
      refine norm_ (a' := ?_) ?_ ?_
      rotate_left
      · show Act.put _ (some 60) _ = _
        simp only [Act.put, List.setIfInBounds_toArray, List.set_cons_zero, List.set_cons_succ, i64_w, i32_w]
        rfl
      refine one_ (i := 26) (N := (some 63)) #[true, true, true, true, true, true, true, true, true, true, true, true, true, true, true, true, true, true, true, true, true, true, true, true, true, true, true, false, false, false] rfl rfl (one_of HT_.out (by kernel_rfl)) (by decide) (fun K hK => ?_)
      refine goes_ Tryd.func36 (by kernel_rfl) rfl #[.agg #[.int .i64 fr, .int .i64 till, .slice A1 ms.length c1, .int .i64 t0, .string t1, .string t2, .slice A2 t3.length c2, .bool desc, .int .i64 lim, .string ⟨#[]⟩], .agg #[.int .i64 x.at_, .slice x.A x.ls.length x.c, .string x.line]] (by rfl) rfl rfl (by (try simp only [List.map_toArray, List.map_cons, List.map_nil]); first | done | rfl) ?_
      refine (HQ2.out _ HBS.out).mono ?_
      rintro e w12_26 ⟨rfl, hb_1⟩
      refine ⟨_, rfl, ?_⟩
      have HBS := Aside0.mk (below_step HBS.out hb_1)
      have hb_ : Below w12_23.heap.size w12_23 w12_26 := hb_1
      have HB := Aside0.mk (below_step HB.out hb_)
      refine hK.out _ _ hb_ (fun hHeld => ?_)
      clear hK K
      refine wpAnyLast_str (S' := fun x_ => Below w12_26.heap.size w12_26 x_) (fun x_ hx_ => below_step hHeld hx_) (Below.refl _ _) ?_
      clear hHeld
      (try clear hb)
      clear hb_
      have HS := Aside0.mk (Below.refl w12_26.heap.size w12_26)
      refine norm_ (a' := ?_) ?_ ?_
      rotate_left
      · show Act.put _ (some 63) _ = _
        simp only [Act.put, List.setIfInBounds_toArray, List.set_cons_zero, List.set_cons_succ, i64_w, i32_w]
        rfl
      refine pure_ (i := 27) (N := (some 64)) (v := ?_) (a' := ?_) #[true, true, true, true, true, true, true, true, true, true, true, true, true, true, true, true, true, true, true, true, true, true, true, true, true, true, true, true, false, false] rfl rfl (any_of HT_.out (by kernel_rfl)) (fun _ _ _ h => h) (Or.inl ⟨by rfl, ?_⟩) ?_ ?_
      rotate_left
      · intro w_
        go_simp
        (try simp only [beq_self_eq_true])
        try with_reducible rfl
      rotate_left
      · simp only [Act.put, List.setIfInBounds_toArray, List.set_cons_zero, List.set_cons_succ, i64_w, i32_w]
        rfl
      refine pure_ (i := 28) (N := (some 65)) (v := ?_) (a' := ?_) #[true, true, true, true, true, true, true, true, true, true, true, true, true, true, true, true, true, true, true, true, true, true, true, true, true, true, true, true, true, false] rfl rfl (any_of HT_.out (by kernel_rfl)) (fun _ _ _ h => h) (Or.inl ⟨by rfl, ?_⟩) ?_ ?_
      rotate_left
      · intro w_
        go_simp
        (try simp only [beq_self_eq_true])
        try with_reducible rfl
      rotate_left
      · simp only [Act.put, List.setIfInBounds_toArray, List.set_cons_zero, List.set_cons_succ, i64_w, i32_w]
        rfl
      refine pure_ (i := 29) (N := (some 4)) (v := ?_) (a' := ?_) #[true, true, true, true, true, true, true, true, true, true, true, true, true, true, true, true, true, true, true, true, true, true, true, true, true, true, true, true, true, true] rfl rfl (any_of HT_.out (by kernel_rfl)) (fun _ _ _ h => h) (Or.inl ⟨by rfl, ?_⟩) ?_ ?_
      rotate_left
      · intro w_
        go_simp
        (try simp only [beq_self_eq_true])
        try with_reducible rfl
      rotate_left
      · simp only [Act.put, List.setIfInBounds_toArray, List.set_cons_zero, List.set_cons_succ, i64_w, i32_w]
        rfl
      refine done_ (done_of HT_.out (by kernel_rfl)) ?_
      go_wp2
      go_ret
      exact ⟨rfl, below_step HB2.out HBS.out⟩
end Go.Proofs.YtfejjfbhlmjkeaaDoor.Q
end
