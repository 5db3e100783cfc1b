/- RecordOrder: the walk of the law. -/
import Derived.Test.YtfejjfbhlmjkeaaE2
import Derived.Shelf.AbstractIn
set_option linter.unusedVariables false
set_option linter.unusedSimpArgs false
namespace Go.Proofs.Ytfejjfbhlmjkeaa.C
open Go.RowKit Go.Sort Go.Proofs.YtfejjfbhlmjkeaaW.PrintWords Go.Proofs.YtfejjfbhlmjkeaaW.PrintLast Go.Proofs.YtfejjfbhlmjkeaaW.PrintMore Go.Proofs.Ytfejjfbhlmjkeaa.B Go.Proofs.Ytfejjfbhlmjkeaa.PRecordIs Go.Proofs.Ytfejjfbhlmjkeaa.CQ

/-- A box of an entry. -/
def BoxE (w : World) (j : Nat) (x : Ent) : Prop := w.heap[j]? = some (.cells #[.int .i64 x.at_, .slice x.A x.ls.length x.c, .string x.line] 34)
theorem BoxE.below {w w' : World} {j : Nat} {x : Ent} (h : BoxE w j x) (k : Below w.heap.size w w') : BoxE w' j x := heap_below k h
theorem BoxE.c0 {w : World} {j : Nat} {x : Ent} (h : BoxE w j x) : w.cell? ⟨j, 0, none⟩ = some (.int .i64 x.at_) := blk_cell h 0
theorem BoxE.c1 {w : World} {j : Nat} {x : Ent} (h : BoxE w j x) : w.cell? ⟨j, 1, none⟩ = some (.slice x.A x.ls.length x.c) := blk_cell h 1
theorem BoxE.c2 {w : World} {j : Nat} {x : Ent} (h : BoxE w j x) : w.cell? ⟨j, 2, none⟩ = some (.string x.line) := blk_cell h 2
theorem BoxE.lt {w : World} {j : Nat} {x : Ent} (h : BoxE w j x) : j < w.heap.size := blk_lt h
theorem order_grown (desc : Bool) (w : World) : Calls Try.prog 23 #[.bool desc] w fun e w' => e = .returned (.func (.func (ordF desc)) #[] #[]) ∧ ∃ q os, w' = grow (w.drewN q) os :=
  (order_any desc w).mono fun _ _ ⟨h, k⟩ => ⟨h, 0, #[], by rw [k, grow_empty]; rfl⟩
theorem cmp_grown (x y : Ent) (w : World) (hx : x.In w) (hy : y.In w) (n : Nat) (os : Array Obj) : Calls Try.prog 22 #[x.val, y.val] (grow (w.drewN n) os) fun e w' => e = .returned (.int .i64 (cmpE x.key y.key)) ∧ ∃ q os', w' = grow ((grow (w.drewN n) os).drewN q) os' :=
  (compare_any x y _ (hx.below (below_class (Below.refl _ w) (Nat.le_refl _) n os)) (hy.below (below_class (Below.refl _ w) (Nat.le_refl _) n os))).mono fun _ _ ⟨h, k⟩ => ⟨h, k.grow⟩
theorem turned_grown (x y : Ent) (w : World) (hx : x.In w) (hy : y.In w) (n : Nat) (os : Array Obj) : Calls Try.prog 54 #[x.val, y.val] (grow (w.drewN n) os) fun e w' => e = .returned (.int .i64 (cmpE y.key x.key)) ∧ ∃ q os', w' = grow ((grow (w.drewN n) os).drewN q) os' :=
  (turned_any x y _ (hx.below (below_class (Below.refl _ w) (Nat.le_refl _) n os)) (hy.below (below_class (Below.refl _ w) (Nat.le_refl _) n os))).mono fun _ _ ⟨h, k⟩ => ⟨h, k.grow⟩
theorem bd_class (w : World) (n : Nat) (os : Array Obj) : Below w.heap.size w (grow (w.drewN n) os) := below_class (Below.refl _ w) (Nat.le_refl _) n os
set_option maxRecDepth 20000 in
set_option maxHeartbeats 16000000 in
theorem recordOrder_all (a b c : Ent) (w : World) (ra : a.Raw w) (rb : b.Raw w) (rc : c.Raw w) (hC : Con w) :
    Calls Try.prog 5 #[a.val, b.val, c.val] w fun e w' => e = .returned (.bool true) ∧ Below w.heap.size w w' := by
  obtain ⟨W, hW⟩ : ∃ W, W = ((w.alloc (.cells #[.int .i64 a.at_, .slice a.A a.ls.length a.c, .string a.line] 34)).alloc (.cells #[.int .i64 b.at_, .slice b.A b.ls.length b.c, .string b.line] 34)).alloc (.cells #[.int .i64 c.at_, .slice c.A c.ls.length c.c, .string c.line] 34) := ⟨_, rfl⟩
  obtain ⟨j, hj⟩ : ∃ j, j = w.heap.size := ⟨_, rfl⟩
  have HB : Aside0 (Below w.heap.size w W) := ⟨by rw [hW]; exact below_alloc (below_alloc (below_alloc (Below.refl _ w) _) _) _⟩
  have XA : Aside0 (BoxE W j a) := ⟨by rw [hW, hj]; exact blk_alloc (blk_alloc (Go.heap_alloc_new w _) _) _⟩
  have XB : Aside0 (BoxE W (j + 1) b) := ⟨by rw [hW, hj]; exact blk_alloc (box1 w _ _) _⟩
  have XC : Aside0 (BoxE W (j + 1 + 1) c) := ⟨by
    rw [hW, hj]
    have := Go.heap_alloc_new ((w.alloc (.cells #[.int .i64 a.at_, .slice a.A a.ls.length a.c, .string a.line] 34)).alloc (.cells #[.int .i64 b.at_, .slice b.A b.ls.length b.c, .string b.line] 34)) (.cells #[.int .i64 c.at_, .slice c.A c.ls.length c.c, .string c.line] 34)
    unfold BoxE
    simpa using this⟩
  have RA := Aside0.mk (ra.below HB.out)
  have RB := Aside0.mk (rb.below HB.out)
  have RC := Aside0.mk (rc.below HB.out)
  have HC := Aside0.mk (hC.below HB.out)
  have HW := Aside0.mk hW
  have HJ := Aside0.mk hj
  clear hW hj ra rb rc hC
  unfold Ent.val
  go_enter Try.func5, Try.ntmps5
  go_wp2_with fail
  try rw [← HW.out]
  try rw [← HJ.out]
  clear HW HJ
  ((refine (alive_any _ HC.out).mono ?_); rintro e w1 ⟨rfl, hb1⟩)
  have HB := Aside0.mk (below_step HB.out hb1)
  have XA := Aside0.mk (XA.out.below hb1)
  have XB := Aside0.mk (XB.out.below hb1)
  have XC := Aside0.mk (XC.out.below hb1)
  have RA := Aside0.mk (RA.out.below hb1)
  have RB := Aside0.mk (RB.out.below hb1)
  have RC := Aside0.mk (RC.out.below hb1)
  clear hb1
  clear HC
  have a0 : w1.cell? _ = _ := XA.out.c0
  have a1 : w1.cell? _ = _ := XA.out.c1
  have a2 : w1.cell? _ = _ := XA.out.c2
  have b0 : w1.cell? _ = _ := XB.out.c0
  have b1 : w1.cell? _ = _ := XB.out.c1
  have b2 : w1.cell? _ = _ := XB.out.c2
  have c0 : w1.cell? _ = _ := XC.out.c0
  have c1 : w1.cell? _ = _ := XC.out.c1
  have c2 : w1.cell? _ = _ := XC.out.c2
  go_wp2_with fail
  clear a0 a1 a2 b0 b1 b2 c0 c1 c2
  obtain ⟨ga, hga⟩ : ∃ g, g = greatB a.key := ⟨_, rfl⟩
  have HGa : Aside0 (Calls Try.prog 20 #[a.val] w1 fun e w' => e = .returned (.bool ga) ∧ Below w1.heap.size w1 w') := ⟨by rw [hga]; exact great_any a w1 RA.out⟩
  replace hga := Aside0.mk hga
  unfold Ent.val at HGa
  ((refine (HGa.out).mono ?_); rintro e w2 ⟨rfl, hb1⟩)
  have HB := Aside0.mk (below_step HB.out hb1)
  have XA := Aside0.mk (XA.out.below hb1)
  have XB := Aside0.mk (XB.out.below hb1)
  have XC := Aside0.mk (XC.out.below hb1)
  have RA := Aside0.mk (RA.out.below hb1)
  have RB := Aside0.mk (RB.out.below hb1)
  have RC := Aside0.mk (RC.out.below hb1)
  clear hb1
  cases ga with
  | true =>
    go_wp2
    go_ret
    exact ⟨rfl, HB.out⟩
  | false =>
    have a0 : w2.cell? _ = _ := XA.out.c0
    have a1 : w2.cell? _ = _ := XA.out.c1
    have a2 : w2.cell? _ = _ := XA.out.c2
    have b0 : w2.cell? _ = _ := XB.out.c0
    have b1 : w2.cell? _ = _ := XB.out.c1
    have b2 : w2.cell? _ = _ := XB.out.c2
    have c0 : w2.cell? _ = _ := XC.out.c0
    have c1 : w2.cell? _ = _ := XC.out.c1
    have c2 : w2.cell? _ = _ := XC.out.c2
    go_wp2_with fail
    clear a0 a1 a2 b0 b1 b2 c0 c1 c2
    obtain ⟨gb, hgb⟩ : ∃ g, g = greatB b.key := ⟨_, rfl⟩
    have HGb : Aside0 (Calls Try.prog 20 #[b.val] w2 fun e w' => e = .returned (.bool gb) ∧ Below w2.heap.size w2 w') := ⟨by rw [hgb]; exact great_any b w2 RB.out⟩
    replace hgb := Aside0.mk hgb
    unfold Ent.val at HGb
    ((refine (HGb.out).mono ?_); rintro e w3 ⟨rfl, hb1⟩)
    have HB := Aside0.mk (below_step HB.out hb1)
    have XA := Aside0.mk (XA.out.below hb1)
    have XB := Aside0.mk (XB.out.below hb1)
    have XC := Aside0.mk (XC.out.below hb1)
    have RA := Aside0.mk (RA.out.below hb1)
    have RB := Aside0.mk (RB.out.below hb1)
    have RC := Aside0.mk (RC.out.below hb1)
    clear hb1
    cases gb with
    | true =>
      go_wp2
      go_ret
      exact ⟨rfl, HB.out⟩
    | false =>
      have a0 : w3.cell? _ = _ := XA.out.c0
      have a1 : w3.cell? _ = _ := XA.out.c1
      have a2 : w3.cell? _ = _ := XA.out.c2
      have b0 : w3.cell? _ = _ := XB.out.c0
      have b1 : w3.cell? _ = _ := XB.out.c1
      have b2 : w3.cell? _ = _ := XB.out.c2
      have c0 : w3.cell? _ = _ := XC.out.c0
      have c1 : w3.cell? _ = _ := XC.out.c1
      have c2 : w3.cell? _ = _ := XC.out.c2
      go_wp2_with fail
      clear a0 a1 a2 b0 b1 b2 c0 c1 c2
      obtain ⟨gc, hgc⟩ : ∃ g, g = greatB c.key := ⟨_, rfl⟩
      have HGc : Aside0 (Calls Try.prog 20 #[c.val] w3 fun e w' => e = .returned (.bool gc) ∧ Below w3.heap.size w3 w') := ⟨by rw [hgc]; exact great_any c w3 RC.out⟩
      replace hgc := Aside0.mk hgc
      unfold Ent.val at HGc
      ((refine (HGc.out).mono ?_); rintro e w4 ⟨rfl, hb1⟩)
      have HB := Aside0.mk (below_step HB.out hb1)
      have XA := Aside0.mk (XA.out.below hb1)
      have XB := Aside0.mk (XB.out.below hb1)
      have XC := Aside0.mk (XC.out.below hb1)
      have RA := Aside0.mk (RA.out.below hb1)
      have RB := Aside0.mk (RB.out.below hb1)
      have RC := Aside0.mk (RC.out.below hb1)
      clear hb1
      cases gc with
      | true =>
        go_wp2
        go_ret
        exact ⟨rfl, HB.out⟩
      | false =>
        have IA := Aside0.mk (RA.out.in_ (by have := (great_few hga.out.symm).1; exact Nat.le_trans this (by decide)))
        have IB := Aside0.mk (RB.out.in_ (by have := (great_few hgb.out.symm).1; exact Nat.le_trans this (by decide)))
        have IC := Aside0.mk (RC.out.in_ (by have := (great_few hgc.out.symm).1; exact Nat.le_trans this (by decide)))
        clear RA RB RC hga hgb hgc HGa HGb HGc
        have mixed : Try.prog.follows .mixedOrders = true := by kernel_rfl
        have eg22 : ∀ args w, (callFunc 22 args).run Try.prog w = .ok (.enter 22 args) w := ord_enters false
        have eg54 : ∀ args w, (callFunc 54 args).run Try.prog w = .ok (.enter 54 args) w := ord_enters true
        have HOne := Aside0.mk (one_order a.key b.key c.key)
        obtain ⟨r, hr⟩ : ∃ r, r = cmpE b.key c.key := ⟨_, rfl⟩
        obtain ⟨s, hs⟩ : ∃ s, s = cmpE a.key c.key := ⟨_, rfl⟩
        have TR : Aside0 (r = -1 ∨ r = 0 ∨ r = 1) := ⟨hr ▸ cmpE_c.tri _ _⟩
        have TS : Aside0 (s = -1 ∨ s = 0 ∨ s = 1) := ⟨hs ▸ cmpE_c.tri _ _⟩
        rw [← hr, ← hs] at HOne
        have HR := Aside0.mk hr
        have HS := Aside0.mk hs
        clear hr hs
        rcases cmpE_c.tri a.key b.key with hq | hq | hq
        · have AB : Aside0 (cmpE a.key b.key = -1) := ⟨hq⟩
          have BA : Aside0 (cmpE b.key a.key = 1) := ⟨by first | (rw [cmpE_c.anti, hq]; done) | (rw [cmpE_c.anti, hq]; rfl)⟩
          clear hq
          rw [AB.out] at HOne
          have a0 : w4.cell? _ = _ := XA.out.c0
          have a1 : w4.cell? _ = _ := XA.out.c1
          have a2 : w4.cell? _ = _ := XA.out.c2
          have b0 : w4.cell? _ = _ := XB.out.c0
          have b1 : w4.cell? _ = _ := XB.out.c1
          have b2 : w4.cell? _ = _ := XB.out.c2
          go_wp2_with fail
          clear a0 a1 a2 b0 b1 b2
          have HQ0 : Aside0 (Calls Try.prog 21 #[a.val, b.val] w4 fun e w' => e = .returned (.bool true) ∧ Below w4.heap.size w4 w') := ⟨by
            have := before_any a b w4 IA.out IB.out
            unfold bef at this
            rw [AB.out] at this
            exact this⟩
          unfold Ent.val at HQ0
          ((refine (HQ0.out).mono ?_); rintro e w5 ⟨rfl, hb1⟩)
          have HB := Aside0.mk (below_step HB.out hb1)
          have XA := Aside0.mk (XA.out.below hb1)
          have XB := Aside0.mk (XB.out.below hb1)
          have XC := Aside0.mk (XC.out.below hb1)
          have IA := Aside0.mk (IA.out.below hb1)
          have IB := Aside0.mk (IB.out.below hb1)
          have IC := Aside0.mk (IC.out.below hb1)
          clear hb1
          clear HQ0
          have a0 : w5.cell? _ = _ := XA.out.c0
          have a1 : w5.cell? _ = _ := XA.out.c1
          have a2 : w5.cell? _ = _ := XA.out.c2
          have b0 : w5.cell? _ = _ := XB.out.c0
          have b1 : w5.cell? _ = _ := XB.out.c1
          have b2 : w5.cell? _ = _ := XB.out.c2
          go_wp2_with fail
          clear a0 a1 a2 b0 b1 b2
          have HQ1 : Aside0 (Calls Try.prog 21 #[b.val, a.val] w5 fun e w' => e = .returned (.bool false) ∧ Below w5.heap.size w5 w') := ⟨by
            have := before_any b a w5 IB.out IA.out
            unfold bef at this
            rw [BA.out] at this
            exact this⟩
          unfold Ent.val at HQ1
          ((refine (HQ1.out).mono ?_); rintro e w6 ⟨rfl, hb1⟩)
          have HB := Aside0.mk (below_step HB.out hb1)
          have XA := Aside0.mk (XA.out.below hb1)
          have XB := Aside0.mk (XB.out.below hb1)
          have XC := Aside0.mk (XC.out.below hb1)
          have IA := Aside0.mk (IA.out.below hb1)
          have IB := Aside0.mk (IB.out.below hb1)
          have IC := Aside0.mk (IC.out.below hb1)
          clear hb1
          clear HQ1
          have hAB : ∀ n os, _ := fun n os => cmp_grown a b w6 IA.out IB.out n os
          have hBA : ∀ n os, _ := fun n os => cmp_grown b a w6 IB.out IA.out n os
          have hT : ∀ n os, _ := fun n os => turned_grown a b w6 IA.out IB.out n os
          rw [AB.out] at hAB
          rw [BA.out] at hBA hT
          unfold Ent.val at hAB hBA hT
          have hO0 : ∀ n os, _ := fun n os => order_grown false (grow (w6.drewN n) os)
          have hO1 : ∀ n os, _ := fun n os => order_grown true (grow (w6.drewN n) os)
          unfold ordF at hO0 hO1
          simp only [Bool.false_eq_true, if_false, if_true] at hO0 hO1
          have a0 := fun n os => cell_grown (w := w6) XA.out.lt XA.out.c0 n os
          have a1 := fun n os => cell_grown (w := w6) XA.out.lt XA.out.c1 n os
          have a2 := fun n os => cell_grown (w := w6) XA.out.lt XA.out.c2 n os
          have b0 := fun n os => cell_grown (w := w6) XB.out.lt XB.out.c0 n os
          have b1 := fun n os => cell_grown (w := w6) XB.out.lt XB.out.c1 n os
          have b2 := fun n os => cell_grown (w := w6) XB.out.lt XB.out.c2 n os
          go_wp2_with fail
          go_quiet_grown (first | (go_at_call 22; first | with_reducible refine Calls.grown_of (hAB _ _) | with_reducible refine Calls.grown_of (hBA _ _)) | (go_at_call 23; first | with_reducible refine Calls.grown_of (hO0 _ _) | with_reducible refine Calls.grown_of (hO1 _ _)) | (go_at_fn 22; with_reducible refine Calls.grown_of (hAB _ _)) | (go_at_fn 54; with_reducible refine Calls.grown_of (hT _ _)))
          clear a0 a1 a2 b0 b1 b2 hAB hBA hT hO0 hO1
          obtain ⟨w7, hw7⟩ : ∃ v, v = grow (w6.drewN nq) osq := ⟨_, rfl⟩
          have hb1 : Below w6.heap.size w6 w7 := by rw [hw7]; exact bd_class w6 nq osq
          rw [← hw7]
          clear hw7
          have HB := Aside0.mk (below_step HB.out hb1)
          have XA := Aside0.mk (XA.out.below hb1)
          have IA := Aside0.mk (IA.out.below hb1)
          have XB := Aside0.mk (XB.out.below hb1)
          have IB := Aside0.mk (IB.out.below hb1)
          have XC := Aside0.mk (XC.out.below hb1)
          have IC := Aside0.mk (IC.out.below hb1)
          clear hb1
          have hAB : ∀ n os, _ := fun n os => cmp_grown a b w7 IA.out IB.out n os
          have hBC : ∀ n os, _ := fun n os => cmp_grown b c w7 IB.out IC.out n os
          have hAC : ∀ n os, _ := fun n os => cmp_grown a c w7 IA.out IC.out n os
          rw [AB.out] at hAB
          rw [← HR.out] at hBC
          rw [← HS.out] at hAC
          unfold Ent.val at hAB hBC hAC
          have a0 := fun n os => cell_grown (w := w7) XA.out.lt XA.out.c0 n os
          have a1 := fun n os => cell_grown (w := w7) XA.out.lt XA.out.c1 n os
          have a2 := fun n os => cell_grown (w := w7) XA.out.lt XA.out.c2 n os
          have b0 := fun n os => cell_grown (w := w7) XB.out.lt XB.out.c0 n os
          have b1 := fun n os => cell_grown (w := w7) XB.out.lt XB.out.c1 n os
          have b2 := fun n os => cell_grown (w := w7) XB.out.lt XB.out.c2 n os
          have c0 := fun n os => cell_grown (w := w7) XC.out.lt XC.out.c0 n os
          have c1 := fun n os => cell_grown (w := w7) XC.out.lt XC.out.c1 n os
          have c2 := fun n os => cell_grown (w := w7) XC.out.lt XC.out.c2 n os
          go_wp2_with fail
          go_quiet_grown (first | (go_at_call 22; first | with_reducible refine Calls.grown_of (hAB _ _) | with_reducible refine Calls.grown_of (hBC _ _) | with_reducible refine Calls.grown_of (hAC _ _)))
          clear a0 a1 a2 b0 b1 b2 c0 c1 c2 hAB hBC hAC
          obtain ⟨w8, hw8⟩ : ∃ v, v = grow (w7.drewN nq) osq := ⟨_, rfl⟩
          have hb1 : Below w7.heap.size w7 w8 := by rw [hw8]; exact bd_class w7 nq osq
          rw [← hw8]
          clear hw8
          have HB := Aside0.mk (below_step HB.out hb1)
          clear hb1
          clear AB BA HR HS
          obtain ⟨TR⟩ := TR
          obtain ⟨TS⟩ := TS
          rcases TR with rfl | rfl | rfl <;> rcases TS with rfl | rfl | rfl
          all_goals
            go_wp2
            go_ret
            exact ⟨by first | rfl | (exfalso; have h := HOne.out; revert h; decide), HB.out⟩
        · have AB : Aside0 (cmpE a.key b.key = 0) := ⟨hq⟩
          have BA : Aside0 (cmpE b.key a.key = 0) := ⟨by first | (rw [cmpE_c.anti, hq]; done) | (rw [cmpE_c.anti, hq]; rfl)⟩
          clear hq
          rw [AB.out] at HOne
          have a0 : w4.cell? _ = _ := XA.out.c0
          have a1 : w4.cell? _ = _ := XA.out.c1
          have a2 : w4.cell? _ = _ := XA.out.c2
          have b0 : w4.cell? _ = _ := XB.out.c0
          have b1 : w4.cell? _ = _ := XB.out.c1
          have b2 : w4.cell? _ = _ := XB.out.c2
          go_wp2_with fail
          clear a0 a1 a2 b0 b1 b2
          have HQ0 : Aside0 (Calls Try.prog 21 #[a.val, b.val] w4 fun e w' => e = .returned (.bool false) ∧ Below w4.heap.size w4 w') := ⟨by
            have := before_any a b w4 IA.out IB.out
            unfold bef at this
            rw [AB.out] at this
            exact this⟩
          unfold Ent.val at HQ0
          ((refine (HQ0.out).mono ?_); rintro e w5 ⟨rfl, hb1⟩)
          have HB := Aside0.mk (below_step HB.out hb1)
          have XA := Aside0.mk (XA.out.below hb1)
          have XB := Aside0.mk (XB.out.below hb1)
          have XC := Aside0.mk (XC.out.below hb1)
          have IA := Aside0.mk (IA.out.below hb1)
          have IB := Aside0.mk (IB.out.below hb1)
          have IC := Aside0.mk (IC.out.below hb1)
          clear hb1
          clear HQ0
          have a0 : w5.cell? _ = _ := XA.out.c0
          have a1 : w5.cell? _ = _ := XA.out.c1
          have a2 : w5.cell? _ = _ := XA.out.c2
          have b0 : w5.cell? _ = _ := XB.out.c0
          have b1 : w5.cell? _ = _ := XB.out.c1
          have b2 : w5.cell? _ = _ := XB.out.c2
          go_wp2_with fail
          clear a0 a1 a2 b0 b1 b2
          have HQ1 : Aside0 (Calls Try.prog 21 #[b.val, a.val] w5 fun e w' => e = .returned (.bool false) ∧ Below w5.heap.size w5 w') := ⟨by
            have := before_any b a w5 IB.out IA.out
            unfold bef at this
            rw [BA.out] at this
            exact this⟩
          unfold Ent.val at HQ1
          ((refine (HQ1.out).mono ?_); rintro e w6 ⟨rfl, hb1⟩)
          have HB := Aside0.mk (below_step HB.out hb1)
          have XA := Aside0.mk (XA.out.below hb1)
          have XB := Aside0.mk (XB.out.below hb1)
          have XC := Aside0.mk (XC.out.below hb1)
          have IA := Aside0.mk (IA.out.below hb1)
          have IB := Aside0.mk (IB.out.below hb1)
          have IC := Aside0.mk (IC.out.below hb1)
          clear hb1
          clear HQ1
          have hAB : ∀ n os, _ := fun n os => cmp_grown a b w6 IA.out IB.out n os
          have hBA : ∀ n os, _ := fun n os => cmp_grown b a w6 IB.out IA.out n os
          have hT : ∀ n os, _ := fun n os => turned_grown a b w6 IA.out IB.out n os
          rw [AB.out] at hAB
          rw [BA.out] at hBA hT
          unfold Ent.val at hAB hBA hT
          have hO0 : ∀ n os, _ := fun n os => order_grown false (grow (w6.drewN n) os)
          have hO1 : ∀ n os, _ := fun n os => order_grown true (grow (w6.drewN n) os)
          unfold ordF at hO0 hO1
          simp only [Bool.false_eq_true, if_false, if_true] at hO0 hO1
          have a0 := fun n os => cell_grown (w := w6) XA.out.lt XA.out.c0 n os
          have a1 := fun n os => cell_grown (w := w6) XA.out.lt XA.out.c1 n os
          have a2 := fun n os => cell_grown (w := w6) XA.out.lt XA.out.c2 n os
          have b0 := fun n os => cell_grown (w := w6) XB.out.lt XB.out.c0 n os
          have b1 := fun n os => cell_grown (w := w6) XB.out.lt XB.out.c1 n os
          have b2 := fun n os => cell_grown (w := w6) XB.out.lt XB.out.c2 n os
          go_wp2_with fail
          go_quiet_grown (first | (go_at_call 22; first | with_reducible refine Calls.grown_of (hAB _ _) | with_reducible refine Calls.grown_of (hBA _ _)) | (go_at_call 23; first | with_reducible refine Calls.grown_of (hO0 _ _) | with_reducible refine Calls.grown_of (hO1 _ _)) | (go_at_fn 22; with_reducible refine Calls.grown_of (hAB _ _)) | (go_at_fn 54; with_reducible refine Calls.grown_of (hT _ _)))
          clear a0 a1 a2 b0 b1 b2 hAB hBA hT hO0 hO1
          obtain ⟨w7, hw7⟩ : ∃ v, v = grow (w6.drewN nq) osq := ⟨_, rfl⟩
          have hb1 : Below w6.heap.size w6 w7 := by rw [hw7]; exact bd_class w6 nq osq
          rw [← hw7]
          clear hw7
          have HB := Aside0.mk (below_step HB.out hb1)
          have XA := Aside0.mk (XA.out.below hb1)
          have IA := Aside0.mk (IA.out.below hb1)
          have XB := Aside0.mk (XB.out.below hb1)
          have IB := Aside0.mk (IB.out.below hb1)
          have XC := Aside0.mk (XC.out.below hb1)
          have IC := Aside0.mk (IC.out.below hb1)
          clear hb1
          have hAB : ∀ n os, _ := fun n os => cmp_grown a b w7 IA.out IB.out n os
          have hBC : ∀ n os, _ := fun n os => cmp_grown b c w7 IB.out IC.out n os
          have hAC : ∀ n os, _ := fun n os => cmp_grown a c w7 IA.out IC.out n os
          rw [AB.out] at hAB
          rw [← HR.out] at hBC
          rw [← HS.out] at hAC
          unfold Ent.val at hAB hBC hAC
          have a0 := fun n os => cell_grown (w := w7) XA.out.lt XA.out.c0 n os
          have a1 := fun n os => cell_grown (w := w7) XA.out.lt XA.out.c1 n os
          have a2 := fun n os => cell_grown (w := w7) XA.out.lt XA.out.c2 n os
          have b0 := fun n os => cell_grown (w := w7) XB.out.lt XB.out.c0 n os
          have b1 := fun n os => cell_grown (w := w7) XB.out.lt XB.out.c1 n os
          have b2 := fun n os => cell_grown (w := w7) XB.out.lt XB.out.c2 n os
          have c0 := fun n os => cell_grown (w := w7) XC.out.lt XC.out.c0 n os
          have c1 := fun n os => cell_grown (w := w7) XC.out.lt XC.out.c1 n os
          have c2 := fun n os => cell_grown (w := w7) XC.out.lt XC.out.c2 n os
          go_wp2_with fail
          go_quiet_grown (first | (go_at_call 22; first | with_reducible refine Calls.grown_of (hAB _ _) | with_reducible refine Calls.grown_of (hBC _ _) | with_reducible refine Calls.grown_of (hAC _ _)))
          clear a0 a1 a2 b0 b1 b2 c0 c1 c2 hAB hBC hAC
          obtain ⟨w8, hw8⟩ : ∃ v, v = grow (w7.drewN nq) osq := ⟨_, rfl⟩
          have hb1 : Below w7.heap.size w7 w8 := by rw [hw8]; exact bd_class w7 nq osq
          rw [← hw8]
          clear hw8
          have HB := Aside0.mk (below_step HB.out hb1)
          clear hb1
          clear AB BA HR HS
          obtain ⟨TR⟩ := TR
          obtain ⟨TS⟩ := TS
          rcases TR with rfl | rfl | rfl <;> rcases TS with rfl | rfl | rfl
          all_goals
            go_wp2
            go_ret
            exact ⟨by first | rfl | (exfalso; have h := HOne.out; revert h; decide), HB.out⟩
        · have AB : Aside0 (cmpE a.key b.key = 1) := ⟨hq⟩
          have BA : Aside0 (cmpE b.key a.key = -1) := ⟨by first | (rw [cmpE_c.anti, hq]; done) | (rw [cmpE_c.anti, hq]; rfl)⟩
          clear hq
          rw [AB.out] at HOne
          have a0 : w4.cell? _ = _ := XA.out.c0
          have a1 : w4.cell? _ = _ := XA.out.c1
          have a2 : w4.cell? _ = _ := XA.out.c2
          have b0 : w4.cell? _ = _ := XB.out.c0
          have b1 : w4.cell? _ = _ := XB.out.c1
          have b2 : w4.cell? _ = _ := XB.out.c2
          go_wp2_with fail
          clear a0 a1 a2 b0 b1 b2
          have HQ0 : Aside0 (Calls Try.prog 21 #[a.val, b.val] w4 fun e w' => e = .returned (.bool false) ∧ Below w4.heap.size w4 w') := ⟨by
            have := before_any a b w4 IA.out IB.out
            unfold bef at this
            rw [AB.out] at this
            exact this⟩
          unfold Ent.val at HQ0
          ((refine (HQ0.out).mono ?_); rintro e w5 ⟨rfl, hb1⟩)
          have HB := Aside0.mk (below_step HB.out hb1)
          have XA := Aside0.mk (XA.out.below hb1)
          have XB := Aside0.mk (XB.out.below hb1)
          have XC := Aside0.mk (XC.out.below hb1)
          have IA := Aside0.mk (IA.out.below hb1)
          have IB := Aside0.mk (IB.out.below hb1)
          have IC := Aside0.mk (IC.out.below hb1)
          clear hb1
          clear HQ0
          have a0 : w5.cell? _ = _ := XA.out.c0
          have a1 : w5.cell? _ = _ := XA.out.c1
          have a2 : w5.cell? _ = _ := XA.out.c2
          have b0 : w5.cell? _ = _ := XB.out.c0
          have b1 : w5.cell? _ = _ := XB.out.c1
          have b2 : w5.cell? _ = _ := XB.out.c2
          go_wp2_with fail
          clear a0 a1 a2 b0 b1 b2
          have HQ1 : Aside0 (Calls Try.prog 21 #[b.val, a.val] w5 fun e w' => e = .returned (.bool true) ∧ Below w5.heap.size w5 w') := ⟨by
            have := before_any b a w5 IB.out IA.out
            unfold bef at this
            rw [BA.out] at this
            exact this⟩
          unfold Ent.val at HQ1
          ((refine (HQ1.out).mono ?_); rintro e w6 ⟨rfl, hb1⟩)
          have HB := Aside0.mk (below_step HB.out hb1)
          have XA := Aside0.mk (XA.out.below hb1)
          have XB := Aside0.mk (XB.out.below hb1)
          have XC := Aside0.mk (XC.out.below hb1)
          have IA := Aside0.mk (IA.out.below hb1)
          have IB := Aside0.mk (IB.out.below hb1)
          have IC := Aside0.mk (IC.out.below hb1)
          clear hb1
          clear HQ1
          have hAB : ∀ n os, _ := fun n os => cmp_grown a b w6 IA.out IB.out n os
          have hBA : ∀ n os, _ := fun n os => cmp_grown b a w6 IB.out IA.out n os
          have hT : ∀ n os, _ := fun n os => turned_grown a b w6 IA.out IB.out n os
          rw [AB.out] at hAB
          rw [BA.out] at hBA hT
          unfold Ent.val at hAB hBA hT
          have hO0 : ∀ n os, _ := fun n os => order_grown false (grow (w6.drewN n) os)
          have hO1 : ∀ n os, _ := fun n os => order_grown true (grow (w6.drewN n) os)
          unfold ordF at hO0 hO1
          simp only [Bool.false_eq_true, if_false, if_true] at hO0 hO1
          have a0 := fun n os => cell_grown (w := w6) XA.out.lt XA.out.c0 n os
          have a1 := fun n os => cell_grown (w := w6) XA.out.lt XA.out.c1 n os
          have a2 := fun n os => cell_grown (w := w6) XA.out.lt XA.out.c2 n os
          have b0 := fun n os => cell_grown (w := w6) XB.out.lt XB.out.c0 n os
          have b1 := fun n os => cell_grown (w := w6) XB.out.lt XB.out.c1 n os
          have b2 := fun n os => cell_grown (w := w6) XB.out.lt XB.out.c2 n os
          go_wp2_with fail
          go_quiet_grown (first | (go_at_call 22; first | with_reducible refine Calls.grown_of (hAB _ _) | with_reducible refine Calls.grown_of (hBA _ _)) | (go_at_call 23; first | with_reducible refine Calls.grown_of (hO0 _ _) | with_reducible refine Calls.grown_of (hO1 _ _)) | (go_at_fn 22; with_reducible refine Calls.grown_of (hAB _ _)) | (go_at_fn 54; with_reducible refine Calls.grown_of (hT _ _)))
          clear a0 a1 a2 b0 b1 b2 hAB hBA hT hO0 hO1
          obtain ⟨w7, hw7⟩ : ∃ v, v = grow (w6.drewN nq) osq := ⟨_, rfl⟩
          have hb1 : Below w6.heap.size w6 w7 := by rw [hw7]; exact bd_class w6 nq osq
          rw [← hw7]
          clear hw7
          have HB := Aside0.mk (below_step HB.out hb1)
          have XA := Aside0.mk (XA.out.below hb1)
          have IA := Aside0.mk (IA.out.below hb1)
          have XB := Aside0.mk (XB.out.below hb1)
          have IB := Aside0.mk (IB.out.below hb1)
          have XC := Aside0.mk (XC.out.below hb1)
          have IC := Aside0.mk (IC.out.below hb1)
          clear hb1
          have hAB : ∀ n os, _ := fun n os => cmp_grown a b w7 IA.out IB.out n os
          have hBC : ∀ n os, _ := fun n os => cmp_grown b c w7 IB.out IC.out n os
          have hAC : ∀ n os, _ := fun n os => cmp_grown a c w7 IA.out IC.out n os
          rw [AB.out] at hAB
          rw [← HR.out] at hBC
          rw [← HS.out] at hAC
          unfold Ent.val at hAB hBC hAC
          have a0 := fun n os => cell_grown (w := w7) XA.out.lt XA.out.c0 n os
          have a1 := fun n os => cell_grown (w := w7) XA.out.lt XA.out.c1 n os
          have a2 := fun n os => cell_grown (w := w7) XA.out.lt XA.out.c2 n os
          have b0 := fun n os => cell_grown (w := w7) XB.out.lt XB.out.c0 n os
          have b1 := fun n os => cell_grown (w := w7) XB.out.lt XB.out.c1 n os
          have b2 := fun n os => cell_grown (w := w7) XB.out.lt XB.out.c2 n os
          have c0 := fun n os => cell_grown (w := w7) XC.out.lt XC.out.c0 n os
          have c1 := fun n os => cell_grown (w := w7) XC.out.lt XC.out.c1 n os
          have c2 := fun n os => cell_grown (w := w7) XC.out.lt XC.out.c2 n os
          go_wp2_with fail
          go_quiet_grown (first | (go_at_call 22; first | with_reducible refine Calls.grown_of (hAB _ _) | with_reducible refine Calls.grown_of (hBC _ _) | with_reducible refine Calls.grown_of (hAC _ _)))
          clear a0 a1 a2 b0 b1 b2 c0 c1 c2 hAB hBC hAC
          obtain ⟨w8, hw8⟩ : ∃ v, v = grow (w7.drewN nq) osq := ⟨_, rfl⟩
          have hb1 : Below w7.heap.size w7 w8 := by rw [hw8]; exact bd_class w7 nq osq
          rw [← hw8]
          clear hw8
          have HB := Aside0.mk (below_step HB.out hb1)
          clear hb1
          clear AB BA HR HS
          obtain ⟨TR⟩ := TR
          obtain ⟨TS⟩ := TS
          rcases TR with rfl | rfl | rfl <;> rcases TS with rfl | rfl | rfl
          all_goals
            go_wp2
            go_ret
            exact ⟨by first | rfl | (exfalso; have h := HOne.out; revert h; decide), HB.out⟩
end Go.Proofs.Ytfejjfbhlmjkeaa.C
