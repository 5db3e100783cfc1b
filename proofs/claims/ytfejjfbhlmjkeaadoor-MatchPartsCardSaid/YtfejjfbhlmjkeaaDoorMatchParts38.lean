/- Texts of this claim (printed ones, too), put together by a program that left out what the claim does not use. -/
import Derived.Test.YtfejjfbhlmjkeaaDoorMatchParts35
import Derived.Test.YtfejjfbhlmjkeaaDoorMatchParts37
import Derived.Test.YtfejjfbhlmjkeaaDoorMatchParts34
import Derived.Test.YtfejjfbhlmjkeaaDoorMatchParts33
section
namespace Go.Proofs.YtfejjfbhlmjkeaaDoor.B
end Go.Proofs.YtfejjfbhlmjkeaaDoor.B
namespace Go.Proofs.YtfejjfbhlmjkeaaDoor.C
end Go.Proofs.YtfejjfbhlmjkeaaDoor.C
namespace Go.Proofs.YtfejjfbhlmjkeaaDoor.F
end Go.Proofs.YtfejjfbhlmjkeaaDoor.F
namespace Go.Proofs.YtfejjfbhlmjkeaaDoor.M
end Go.Proofs.YtfejjfbhlmjkeaaDoor.M
namespace Go.Proofs.YtfejjfbhlmjkeaaDoor.PModelMore
end Go.Proofs.YtfejjfbhlmjkeaaDoor.PModelMore
namespace Go.Proofs.YtfejjfbhlmjkeaaDoor.W
end Go.Proofs.YtfejjfbhlmjkeaaDoor.W
set_option linter.unusedVariables false
set_option linter.unusedSimpArgs false
namespace Go.Proofs.YtfejjfbhlmjkeaaDoor.Q
open Go.RowKit Go.Shelf Go.Proofs.YtfejjfbhlmjkeaaDoorW.PrintWords Go.Proofs.YtfejjfbhlmjkeaaDoorW.PrintLast Go.Proofs.YtfejjfbhlmjkeaaDoorW.PrintMore Go.Proofs.YtfejjfbhlmjkeaaDoor.B Go.Proofs.YtfejjfbhlmjkeaaDoor.W Go.Proofs.YtfejjfbhlmjkeaaDoor.M Go.Proofs.YtfejjfbhlmjkeaaDoor.F Go.Proofs.YtfejjfbhlmjkeaaDoor.C Go.Proofs.YtfejjfbhlmjkeaaDoor.PModelMore
/-- A query, as a value, with a page. -/
def qV (q : Qv) (A : Option Addr) (c : Nat) (A' : Option Addr) (c' : Nat) (page : ByteArray) : Value := .agg #[.int .i64 q.fr, .int .i64 q.till, .slice A q.ms.length c, .int .i64 q.T.f0, .string q.T.f1, .string q.T.f2, .slice A' q.T.f3.length c', .bool q.desc, .int .i64 q.lim, .string page]
/-- Whether a query keeps an entry. -/
def keepB (q : Qv) (x : Ent) : Bool := decide (q.fr ≤ x.at_) && (decide (x.at_ ≤ q.till) && (q.ms.all (mtB x) && lineV x.line 4 q.T))
set_option maxRecDepth 20000 in
set_option maxHeartbeats 2000000 in
theorem query_core (fr till at_ t0 lim : Int) (A A' xA : Option Addr) (n c m c' xn xc : Nat) (t1 t2 line page : ByteArray) (desc l k : Bool) (w : World)
    (hl : ∀ V, Below ((w.alloc (.cells #[.int .i64 fr, .int .i64 till, .slice A n c, .int .i64 t0, .string t1, .string t2, .slice A' m c', .bool desc, .int .i64 lim, .string page] 48)).alloc (.cells #[.int .i64 at_, .slice xA xn xc, .string line] 44)).heap.size ((w.alloc (.cells #[.int .i64 fr, .int .i64 till, .slice A n c, .int .i64 t0, .string t1, .string t2, .slice A' m c', .bool desc, .int .i64 lim, .string page] 48)).alloc (.cells #[.int .i64 at_, .slice xA xn xc, .string line] 44)) V → Calls Tryd.prog 33 #[.slice A n c, .agg #[.int .i64 at_, .slice xA xn xc, .string line]] V fun e w' => e = .returned (.bool l) ∧ Below V.heap.size V w')
    (hk : ∀ V, Below ((w.alloc (.cells #[.int .i64 fr, .int .i64 till, .slice A n c, .int .i64 t0, .string t1, .string t2, .slice A' m c', .bool desc, .int .i64 lim, .string page] 48)).alloc (.cells #[.int .i64 at_, .slice xA xn xc, .string line] 44)).heap.size ((w.alloc (.cells #[.int .i64 fr, .int .i64 till, .slice A n c, .int .i64 t0, .string t1, .string t2, .slice A' m c', .bool desc, .int .i64 lim, .string page] 48)).alloc (.cells #[.int .i64 at_, .slice xA xn xc, .string line] 44)) V → Calls Tryd.prog 27 #[.agg #[.int .i64 t0, .string t1, .string t2, .slice A' m c'], .string line] V fun e w' => e = .returned (.bool k) ∧ Below V.heap.size V w') :
    Calls Tryd.prog 35 #[.agg #[.int .i64 fr, .int .i64 till, .slice A n c, .int .i64 t0, .string t1, .string t2, .slice A' m c', .bool desc, .int .i64 lim, .string page], .agg #[.int .i64 at_, .slice xA xn xc, .string line]] w fun e w' => e = .returned (.bool (decide (fr ≤ at_) && (decide (at_ ≤ till) && (l && k)))) ∧ Below w.heap.size w w' := by
  have HL := Aside0.mk hl
  have HK := Aside0.mk hk
  have HB0 : Aside0 (Below w.heap.size w ((w.alloc (.cells #[.int .i64 fr, .int .i64 till, .slice A n c, .int .i64 t0, .string t1, .string t2, .slice A' m c', .bool desc, .int .i64 lim, .string page] 48)).alloc (.cells #[.int .i64 at_, .slice xA xn xc, .string line] 44))) := ⟨below_alloc (below_alloc (Below.refl _ w) _) _⟩
  have HS : Aside0 (∀ W1, Below ((w.alloc (.cells #[.int .i64 fr, .int .i64 till, .slice A n c, .int .i64 t0, .string t1, .string t2, .slice A' m c', .bool desc, .int .i64 lim, .string page] 48)).alloc (.cells #[.int .i64 at_, .slice xA xn xc, .string line] 44)).heap.size ((w.alloc (.cells #[.int .i64 fr, .int .i64 till, .slice A n c, .int .i64 t0, .string t1, .string t2, .slice A' m c', .bool desc, .int .i64 lim, .string page] 48)).alloc (.cells #[.int .i64 at_, .slice xA xn xc, .string line] 44)) W1 → W1.heap[w.heap.size]? = some (.cells #[.int .i64 fr, .int .i64 till, .slice A n c, .int .i64 t0, .string t1, .string t2, .slice A' m c', .bool desc, .int .i64 lim, .string page] 48 (0, 0)) ∧ W1.heap[w.heap.size + 1]? = some (.cells #[.int .i64 at_, .slice xA xn xc, .string line] 44 (0, 0))) := ⟨fun W1 h => ⟨heap_below h (box0 w _ _), heap_below h (box1 w _ _)⟩⟩
  clear hl hk
  by_cases h1 : fr ≤ at_
  · have d1 : decide (fr ≤ at_) = true := decide_eq_true h1
    by_cases h2 : at_ ≤ till
    · have d2 : decide (at_ ≤ till) = true := decide_eq_true h2
      rw [decide_eq_true h1, decide_eq_true h2, Bool.true_and, Bool.true_and]
      clear h1 h2
      cases l with
      | true =>
        rw [Bool.true_and]
        go_enter Tryd.func35, Tryd.ntmps35
        go_wp2_with (first
          | (go_at_call 33; refine (HL.out _ (Below.refl _ _)).mono ?_; rintro e w1 ⟨rfl, hb1⟩; have HB1 := Aside0.mk hb1; clear hb1; obtain ⟨hq_, he_⟩ := HS.out _ HB1.out; have k3 : w1.cell? ⟨w.heap.size, 3, none⟩ = some _ := (blk_cell hq_ 3).trans rfl; have k4 : w1.cell? ⟨w.heap.size, 4, none⟩ = some _ := (blk_cell hq_ 4).trans rfl; have k5 : w1.cell? ⟨w.heap.size, 5, none⟩ = some _ := (blk_cell hq_ 5).trans rfl; have k6 : w1.cell? ⟨w.heap.size, 6, none⟩ = some _ := (blk_cell hq_ 6).trans rfl; have k7 : w1.cell? ⟨w.heap.size + 1, 2, none⟩ = some _ := (blk_cell he_ 2).trans rfl; clear hq_ he_)
          | (go_at_call 27; refine (HK.out _ HB1.out).mono ?_; rintro e w2 ⟨rfl, hb2⟩; have HB2 := Aside0.mk (below_step HB1.out hb2); clear hb2))
        go_ret
        exact ⟨rfl, below_step HB0.out HB2.out⟩
      | false =>
        rw [Bool.false_and]
        clear HK HS
        go_enter Tryd.func35, Tryd.ntmps35
        go_wp2_with (go_at_call 33; refine (HL.out _ (Below.refl _ _)).mono ?_; rintro e w1 ⟨rfl, hb1⟩; have HB1 := Aside0.mk hb1; clear hb1)
        go_ret
        exact ⟨rfl, below_step HB0.out HB1.out⟩
    · have d2 : decide (at_ ≤ till) = false := decide_eq_false h2
      rw [decide_eq_true h1, decide_eq_false h2, Bool.true_and, Bool.false_and]
      clear h1 h2 HL HK HS
      go_enter Tryd.func35, Tryd.ntmps35
      go_wp2
      go_ret
      exact ⟨rfl, HB0.out⟩
  · have d1 : decide (fr ≤ at_) = false := decide_eq_false h1
    rw [decide_eq_false h1, Bool.false_and]
    clear h1 HL HK HS
    go_enter Tryd.func35, Tryd.ntmps35
    go_wp2
    go_ret
    exact ⟨rfl, HB0.out⟩
theorem query_m {W : World} (hC : Go.Proofs.YtfejjfbhlmjkeaaDoor.W.Con W) (hS : Go.Proofs.YtfejjfbhlmjkeaaDoor.M.Spl W) (q : Qv) (A A' : Option Addr) (c c' : Nat) (page : ByteArray) (x : Ent) (w : World) (hb : Below W.heap.size W w) (hq : IsQ w q A c A' c') (hx : x.In w) (hl : x.line.size ≤ 1000) :
    Calls Tryd.prog 35 #[qV q A c A' c' page, x.val] w fun e w' => e = .returned (.bool (keepB q x)) ∧ Below w.heap.size w w' := by
  have hb0 : ∀ o1 o2 : Obj, Below w.heap.size w ((w.alloc o1).alloc o2) := fun o1 o2 => below_alloc (below_alloc (Below.refl _ w) _) _
  exact query_core q.fr q.till x.at_ q.T.f0 q.lim A A' x.A q.ms.length c q.T.f3.length c' x.ls.length x.c q.T.f1 q.T.f2 x.line page q.desc (q.ms.all (mtB x)) (lineV x.line 4 q.T) w
    (fun V h => labels_m x q.ms A c V (in_below (in_below hx (hb0 _ _)) h) (Kd.C_below (Kd.C_below hq.rows (hb0 _ _)) h) hq.few)
    (fun V h => line_all (line := x.line) hC hS (by omega) 4 q.T A' c' V hq.tree.1 (below_step (below_step hb (hb0 _ _)) h) (Kd.C_below (Kd.C_below hq.tree.2.1 (hb0 _ _)) h) hq.tree.2.2)
end Go.Proofs.YtfejjfbhlmjkeaaDoor.Q
end
section
namespace Go.Proofs.YtfejjfbhlmjkeaaDoor.B
end Go.Proofs.YtfejjfbhlmjkeaaDoor.B
namespace Go.Proofs.YtfejjfbhlmjkeaaDoor.C
end Go.Proofs.YtfejjfbhlmjkeaaDoor.C
namespace Go.Proofs.YtfejjfbhlmjkeaaDoor.F
end Go.Proofs.YtfejjfbhlmjkeaaDoor.F
namespace Go.Proofs.YtfejjfbhlmjkeaaDoor.M
end Go.Proofs.YtfejjfbhlmjkeaaDoor.M
namespace Go.Proofs.YtfejjfbhlmjkeaaDoor.PModelMore
end Go.Proofs.YtfejjfbhlmjkeaaDoor.PModelMore
namespace Go.Proofs.YtfejjfbhlmjkeaaDoor.W
end Go.Proofs.YtfejjfbhlmjkeaaDoor.W
set_option linter.unusedVariables false
set_option linter.unusedSimpArgs false
namespace Go.Proofs.YtfejjfbhlmjkeaaDoor.Q
open Go.RowKit Go.Shelf Go.Proofs.YtfejjfbhlmjkeaaDoorW.PrintWords Go.Proofs.YtfejjfbhlmjkeaaDoorW.PrintLast Go.Proofs.YtfejjfbhlmjkeaaDoorW.PrintMore Go.Proofs.YtfejjfbhlmjkeaaDoor.B Go.Proofs.YtfejjfbhlmjkeaaDoor.W Go.Proofs.YtfejjfbhlmjkeaaDoor.M Go.Proofs.YtfejjfbhlmjkeaaDoor.F Go.Proofs.YtfejjfbhlmjkeaaDoor.C Go.Proofs.YtfejjfbhlmjkeaaDoor.PModelMore
/-- A box of a query. -/
def BoxQ (w : World) (j : Nat) (q : Qv) (A : Option Addr) (c : Nat) (A' : Option Addr) (c' : Nat) : Prop := w.heap[j]? = some (.cells #[.int .i64 q.fr, .int .i64 q.till, .slice A q.ms.length c, .int .i64 q.T.f0, .string q.T.f1, .string q.T.f2, .slice A' q.T.f3.length c', .bool q.desc, .int .i64 q.lim, .string ⟨#[]⟩] 48 (0, 0))
theorem BoxQ.below {w w' : World} {j : Nat} {q : Qv} {A A' : Option Addr} {c c' : Nat} (h : BoxQ w j q A c A' c') (k : Below w.heap.size w w') : BoxQ w' j q A c A' c' := heap_below k h
theorem BoxQ.cells {w : World} {j : Nat} {q : Qv} {A A' : Option Addr} {c c' : Nat} (h : BoxQ w j q A c A' c') : w.cell? ⟨j, 0, none⟩ = some (.int .i64 q.fr) ∧ w.cell? ⟨j, 1, none⟩ = some (.int .i64 q.till) ∧ w.cell? ⟨j, 2, none⟩ = some (.slice A q.ms.length c) ∧ w.cell? ⟨j, 3, none⟩ = some (.int .i64 q.T.f0) ∧ w.cell? ⟨j, 4, none⟩ = some (.string q.T.f1) ∧ w.cell? ⟨j, 5, none⟩ = some (.string q.T.f2) ∧ w.cell? ⟨j, 6, none⟩ = some (.slice A' q.T.f3.length c') ∧ w.cell? ⟨j, 7, none⟩ = some (.bool q.desc) ∧ w.cell? ⟨j, 8, none⟩ = some (.int .i64 q.lim) ∧ w.cell? ⟨j, 9, none⟩ = some (.string ⟨#[]⟩) :=
  ⟨blk_cell h 0, blk_cell h 1, blk_cell h 2, blk_cell h 3, blk_cell h 4, blk_cell h 5, blk_cell h 6, blk_cell h 7, blk_cell h 8, blk_cell h 9⟩
theorem take_all (p : Mt → Bool) (xs : List Mt) (i : Nat) (h : i < xs.length) : (xs.take (i + 1)).all p = ((xs.take i).all p && p xs[i]) := by
  rw [List.take_succ_eq_append_getElem h, List.all_append]; simp
set_option maxRecDepth 20000 in
set_option maxHeartbeats 16000000 in
theorem matchParts_all (L : List Int) (A : Option Addr) (c : Nat) (x : Ent) (W : World) (hC : Go.Proofs.YtfejjfbhlmjkeaaDoor.W.Con W) (hS : Go.Proofs.YtfejjfbhlmjkeaaDoor.M.Spl W) (hL : Kd.C (Kd.int .i64) W A L.length L) (hx : x.Raw W) :
    Calls Tryd.prog 9 #[.slice A L.length c, x.val] W fun e w' => e = .returned (.bool true) ∧ Below W.heap.size W w' := by
  have HA0 := fun w => Aside0.mk (alive9 w)
  obtain ⟨V0, hV0⟩ : ∃ V, V = W.alloc (.cells #[.int .i64 x.at_, .slice x.A x.ls.length x.c, .string x.line] 44) := ⟨_, rfl⟩
  obtain ⟨be, hbe⟩ : ∃ b, b = W.heap.size := ⟨_, rfl⟩
  have hb0 : Below W.heap.size W V0 := by rw [hV0]; exact below_alloc (Below.refl _ _) _
  have HE : Aside0 (BoxE V0 be x) := ⟨by rw [hV0, hbe]; exact Go.heap_alloc_new _ _⟩
  have HWd := Aside0.mk hV0
  have HJd := Aside0.mk hbe
  have HB := Aside0.mk hb0
  have HX0 := Aside0.mk hx
  clear hV0 hbe hb0 hx
  by_cases h1 : (300 : Int) < (L.length : Int)
  · have d1 : decide ((300 : Int) < (L.length : Int)) = true := decide_eq_true h1
    clear h1 hC hS hL
    unfold Ent.val
    go_enter Tryd.func9, Tryd.ntmps9
    go_wp2_with fail
    try rw [← HWd.out]
    try rw [← HJd.out]
    ((refine ((HA0 _).out).mono ?_); rintro e w1 ⟨rfl, hb1⟩)
    have HB := Aside0.mk (below_step HB.out hb1)
    clear hb1
    go_wp2
    go_ret
    exact ⟨rfl, HB.out⟩
  have d1 : decide ((300 : Int) < (L.length : Int)) = false := decide_eq_false h1
  obtain ⟨g, hg⟩ : ∃ g, g = greatB x.key := ⟨_, rfl⟩
  have HG : Aside0 (∀ V, Below W.heap.size W V → Calls Tryd.prog 29 #[x.val] V fun e w' => e = .returned (.bool g) ∧ Below V.heap.size V w') := ⟨fun V h => by rw [hg]; exact great_any x V (HX0.out.below h)⟩
  have Hg := Aside0.mk hg
  clear hg
  unfold Ent.val at HG
  cases g with
  | true =>
    clear h1 hC hS hL
    unfold Ent.val
    go_enter Tryd.func9, Tryd.ntmps9
    go_wp2_with fail
    try rw [← HWd.out]
    try rw [← HJd.out]
    ((refine ((HA0 _).out).mono ?_); rintro e w1 ⟨rfl, hb1⟩)
    have HB := Aside0.mk (below_step HB.out hb1)
    have HE := Aside0.mk (HE.out.below hb1)
    clear hb1
    have e0 := HE.out.c0
    have e1 := HE.out.c1
    have e2 := HE.out.c2
    go_wp2_with fail
    ((refine (HG.out _ HB.out).mono ?_); rintro e w2 ⟨rfl, hb2⟩)
    have HB := Aside0.mk (below_step HB.out hb2)
    clear hb2
    go_wp2
    go_ret
    exact ⟨rfl, HB.out⟩
  | false =>
  have hgf := great_few Hg.out.symm
  have HXl : Aside0 (x.line.size ≤ 1000) := ⟨hgf.2.1⟩
  have HXi : Aside0 (∀ V, Below W.heap.size W V → x.In V) := ⟨fun V h => (HX0.out.below h).in_ (Nat.le_trans hgf.1 (by decide))⟩
  have HQy := Aside0.mk (fun w (h : Below W.heap.size W w) => query_any L (by omega) A c w (Kd.C_below hL h))
  have HLn := Aside0.mk (line_all (line := x.line) hC hS (by have := HXl.out; omega))
  have HQm := Aside0.mk (fun (q : Qv) (A A' : Option Addr) (c c' : Nat) (page : ByteArray) (V : World) (h : Below W.heap.size W V) (hq : IsQ V q A c A' c') => query_m hC hS q A A' c c' page x V h hq (HXi.out V h) HXl.out)
  have HLb := Aside0.mk (fun (m : Mt) (V : World) (h : Below W.heap.size W V) => label_m x m V (HXi.out V h))
  clear h1 hC hS hL hgf Hg
  obtain ⟨n, hn⟩ : ∃ n, n = L.length := ⟨_, rfl⟩
  rw [← hn] at d1 HQy ⊢
  clear hn
  unfold Ent.val at HQm HLb ⊢
  go_enter Tryd.func9, Tryd.ntmps9
  go_wp2_with fail
  try rw [← HWd.out]
  try rw [← HJd.out]
  ((refine ((HA0 _).out).mono ?_); rintro e w1 ⟨rfl, hb1⟩)
  have HB := Aside0.mk (below_step HB.out hb1)
  have HE := Aside0.mk (HE.out.below hb1)
  clear hb1 HA0
  have e0 := HE.out.c0
  have e1 := HE.out.c1
  have e2 := HE.out.c2
  go_wp2_with fail
  clear e0 e1 e2
  ((refine (HG.out _ HB.out).mono ?_); rintro e w2 ⟨rfl, hb2⟩)
  have HB := Aside0.mk (below_step HB.out hb2)
  have HE := Aside0.mk (HE.out.below hb2)
  clear hb2 HG
  go_wp2_with fail
  ((refine (HQy.out _ HB.out).mono ?_); rintro e w3 ⟨q, A1, c1, A2, c2, rfl, hq, hb3⟩)
  have HB := Aside0.mk (below_step HB.out hb3)
  have HE := Aside0.mk (HE.out.below hb3)
  have HQ := Aside0.mk hq
  clear hb3 hq HQy
  unfold qvVal
  have E0 : ∀ o : Obj, (w3.alloc o).cell? ⟨be, 0, none⟩ = some (.int .i64 x.at_) := fun o => (HE.out.below (below_alloc (Below.refl _ w3) o)).c0
  have E1 : ∀ o : Obj, (w3.alloc o).cell? ⟨be, 1, none⟩ = some (.slice x.A x.ls.length x.c) := fun o => (HE.out.below (below_alloc (Below.refl _ w3) o)).c1
  have E2 : ∀ o : Obj, (w3.alloc o).cell? ⟨be, 2, none⟩ = some (.string x.line) := fun o => (HE.out.below (below_alloc (Below.refl _ w3) o)).c2
  obtain ⟨V, hV⟩ : ∃ V, V = w3.alloc (.cells #[.int .i64 q.fr, .int .i64 q.till, .slice A1 q.ms.length c1, .int .i64 q.T.f0, .string q.T.f1, .string q.T.f2, .slice A2 q.T.f3.length c2, .bool q.desc, .int .i64 q.lim, .string ⟨#[]⟩] 48) := ⟨_, rfl⟩
  obtain ⟨bq, hbq⟩ : ∃ b, b = w3.heap.size := ⟨_, rfl⟩
  have hb4 : Below w3.heap.size w3 V := by rw [hV]; exact below_alloc (Below.refl _ _) _
  have HBQ : Aside0 (BoxQ V bq q A1 c1 A2 c2) := ⟨by rw [hV, hbq]; exact Go.heap_alloc_new _ _⟩
  have HB := Aside0.mk (below_step HB.out hb4)
  have HE := Aside0.mk (HE.out.below hb4)
  have HQ := Aside0.mk (HQ.out.below hb4)
  have HVd := Aside0.mk hV
  have HKd := Aside0.mk hbq
  clear hV hbq hb4
  have EC : Aside0 (∀ V', Below V.heap.size V V' → V'.cell? ⟨be, 0, none⟩ = some (.int .i64 x.at_) ∧ V'.cell? ⟨be, 1, none⟩ = some (.slice x.A x.ls.length x.c) ∧ V'.cell? ⟨be, 2, none⟩ = some (.string x.line)) := ⟨fun V' h => ⟨(HE.out.below h).c0, (HE.out.below h).c1, (HE.out.below h).c2⟩⟩
  have QC : Aside0 (∀ V', Below V.heap.size V V' → BoxQ V' bq q A1 c1 A2 c2) := ⟨fun V' h => HBQ.out.below h⟩
  have MR : Aside0 (∀ V', Below V.heap.size V V' → Kd.C k51 V' A1 q.ms.length q.ms) := ⟨fun V' h => Kd.C_below HQ.out.rows h⟩
  have MF : Aside0 (q.ms.length ≤ 1000) := ⟨HQ.out.few⟩
  have HLab : Aside0 (∀ (m : Mt) V', Below V.heap.size V V' → Calls Tryd.prog 31 #[mtv m, .agg #[.int .i64 x.at_, .slice x.A x.ls.length x.c, .string x.line]] V' fun e w' => e = .returned (.bool (mtB x m)) ∧ Below V'.heap.size V' w') := ⟨fun m V' h => HLb.out m V' (below_step HB.out h)⟩
  obtain ⟨kb, hkb⟩ : ∃ k, k = keepB q x := ⟨_, rfl⟩
  have HQ1 : Aside0 (∀ V', Below V.heap.size V V' → Calls Tryd.prog 35 #[qV q A1 c1 A2 c2 ⟨#[]⟩, .agg #[.int .i64 x.at_, .slice x.A x.ls.length x.c, .string x.line]] V' fun e w' => e = .returned (.bool kb) ∧ Below V'.heap.size V' w') := ⟨fun V' h => by rw [hkb]; exact HQm.out q A1 A2 c1 c2 _ V' (below_step HB.out h) (HQ.out.below h)⟩
  have HQ2 : Aside0 (∀ V', Below V.heap.size V V' → Calls Tryd.prog 35 #[qV { q with desc := !q.desc, lim := 1 } A1 c1 A2 c2 ⟨#[112]⟩, .agg #[.int .i64 x.at_, .slice x.A x.ls.length x.c, .string x.line]] V' fun e w' => e = .returned (.bool kb) ∧ Below V'.heap.size V' w') := ⟨fun V' h => by
    have hq := HQ.out.below h
    rw [hkb]; exact HQm.out { q with desc := !q.desc, lim := 1 } A1 A2 c1 c2 _ V' (below_step HB.out h) ⟨hq.rows, hq.room, hq.few, hq.tree, (by decide : (1 : Int) ≤ 1), (by decide : (1 : Int) ≤ 8)⟩⟩
  obtain ⟨kl, hkl⟩ : ∃ k, k = lineV x.line 4 q.T := ⟨_, rfl⟩
  have HL1 : Aside0 (Calls Tryd.prog 27 #[.agg #[.int .i64 q.T.f0, .string q.T.f1, .string q.T.f2, .slice A2 q.T.f3.length c2], .string x.line] V fun e w' => e = .returned (.bool kl) ∧ Below V.heap.size V w') := ⟨by rw [hkl]; exact HLn.out 4 q.T A2 c2 V HQ.out.tree.1 HB.out HQ.out.tree.2.1 HQ.out.tree.2.2⟩
  have HKB : Aside0 (kb = (decide (q.fr ≤ x.at_) && (decide (x.at_ ≤ q.till) && (q.ms.all (mtB x) && kl)))) := ⟨by rw [hkb, hkl]; rfl⟩
  clear hkb hkl HQ HE HBQ HQm HLb HLn HX0 HXl HXi
  unfold qV at HQ1 HQ2
  dsimp only at HQ1 HQ2
  obtain ⟨fr, till, ms, ⟨t0, t1, t2, t3⟩, desc, lim⟩ := q
  dsimp only at *
  by_cases h1 : fr ≤ x.at_
  · have d1 : decide (fr ≤ x.at_) = true := decide_eq_true h1
    by_cases h2 : x.at_ ≤ till
    · have d2 : decide (x.at_ ≤ till) = true := decide_eq_true h2
      have HF : Aside0 (kb = (kl && ms.all (mtB x))) := ⟨by rw [HKB.out, decide_eq_true h1, decide_eq_true h2, Bool.true_and, Bool.true_and, Bool.and_comm]⟩
      clear h1 h2 HKB
      go_wp2_with fail
      try rw [← HVd.out]
      try rw [← HKd.out]
      ((refine (HL1.out).mono ?_); rintro e V2 ⟨rfl, hbl⟩)
      have HBl := Aside0.mk hbl
      clear hbl HL1
      obtain ⟨q0, q1, q2, q3, q4, q5, q6, q7, q8, q9⟩ := (QC.out V2 HBl.out).cells
      dsimp only at q0 q1 q2 q3 q4 q5 q6 q7 q8 q9
      go_wp2_with fail
      clear q0 q1 q2 q3 q4 q5 q6 q7 q8 q9
      clear E0 E1 E2
      go_loopw [6, 43] (fun t6 t43 wr => ∃ i : Nat, i ≤ ms.length ∧ t43 = .int .i64 (i : Int) ∧ t6 = .bool (kl && (ms.take i).all (mtB x)) ∧ Aside0 (Below V.heap.size V wr)) (fun _ t43 _ => ms.length - (intOf t43).toNat)
      case atStart => exact ⟨0, Nat.zero_le _, rfl, by simp, HBl⟩
      case round =>
        clear HBl
        obtain ⟨i, hi, rfl, rfl, HBl⟩ := hrel
        by_cases hlt : i < ms.length
        · obtain ⟨ad, hA, k0, k1, k2⟩ := at_T51 (MR.out wr HBl.out) (i : Int) (by omega) (by omega)
          rw [at_m hlt] at k0 k1 k2
          rw [Int.toNat_natCast] at k0 k1 k2
          have hta := take_all (mtB x) ms i hlt
          have hcall := Aside0.mk (fun o => HLab.out ms[i] (wr.alloc o) (below_alloc HBl.out o))
          have EC2 := Aside0.mk (fun o => EC.out (wr.alloc o) (below_alloc HBl.out o))
          subst hA
          obtain ⟨cv, hcv⟩ : ∃ cv, cv = (kl && (ms.take i).all (mtB x)) := ⟨_, rfl⟩
          have hta2 : (kl && (ms.take (i + 1)).all (mtB x)) = (cv && mtB x ms[i]) := by rw [hta, hcv, Bool.and_assoc]
          rw [← hcv]
          obtain ⟨y, hy⟩ : ∃ y, y = ms[i] := ⟨_, rfl⟩
          rw [← hy] at k0 k1 k2 hcall hta2
          obtain ⟨r, hr⟩ : ∃ r, r = mtB x y := ⟨_, rfl⟩
          rw [← hr] at hcall hta2
          have HTA := Aside0.mk hta2
          have Hlt := Aside0.mk hlt
          obtain ⟨y0, y1, y2⟩ := y
          unfold mtv at hcall
          dsimp only at k0 k1 k2 hcall
          have hc0 := fun o => (EC2.out o).1
          have hc1 := fun o => (EC2.out o).2.1
          have hc2 := fun o => (EC2.out o).2.2
          clear hta hta2 hcv hy hr EC2
          cases cv with
          | true =>
            go_wp2_with (go_at_call 31; refine (hcall.out _).mono ?_; rintro e w5 ⟨rfl, hb5⟩; have HB5 := Aside0.mk (below_step (below_alloc HBl.out _) hb5); clear hb5)
            go_roundw
            case rel => exact ⟨i + 1, by have := Hlt.out; omega, by rw [w64q _ (by have := Hlt.out; have := MF.out; omega)]; rfl, by rw [HTA.out, Bool.true_and], HB5⟩
            case measure => have h1 := Hlt.out; have h2 := MF.out; rw [w64q _ (by omega)]; simp [intOf]; omega
          | false =>
            clear hcall
            go_wp2
            go_roundw
            case rel => exact ⟨i + 1, by have := Hlt.out; omega, by rw [w64q _ (by have := Hlt.out; have := MF.out; omega)]; rfl, by rw [HTA.out, Bool.false_and], ⟨below_alloc HBl.out _⟩⟩
            case measure => have h1 := Hlt.out; have h2 := MF.out; rw [w64q _ (by omega)]; simp [intOf]; omega
        · obtain rfl : i = ms.length := by omega
          have hfin : (kl && (ms.take ms.length).all (mtB x)) = kb := by rw [List.take_length]; exact HF.out.symm
          rw [hfin]
          clear hfin HF hlt hi
          obtain ⟨k0, k1, k2, k3, k4, k5, k6, k7, k8, k9⟩ := (QC.out wr HBl.out).cells
          have hb6 := below_alloc (Below.refl _ wr) (.cells #[.int .i64 fr, .int .i64 till, .slice A1 ms.length c1, .int .i64 t0, .string t1, .string t2, .slice A2 t3.length c2, .bool !desc, .int .i64 1, .string ⟨#[112]⟩] 48)
          dsimp only at k0 k1 k2 k3 k4 k5 k6 k7 k8 k9
          have HB6 := Aside0.mk (below_step HBl.out hb6)
          obtain ⟨W6, hW6⟩ : ∃ W6, W6 = wr.alloc (.cells #[.int .i64 fr, .int .i64 till, .slice A1 ms.length c1, .int .i64 t0, .string t1, .string t2, .slice A2 t3.length c2, .bool !desc, .int .i64 1, .string ⟨#[112]⟩] 48) := ⟨_, rfl⟩
          have HT6 : Aside0 (W6.heap[wr.heap.size]? = some (.cells #[.int .i64 fr, .int .i64 till, .slice A1 ms.length c1, .int .i64 t0, .string t1, .string t2, .slice A2 t3.length c2, .bool !desc, .int .i64 1, .string ⟨#[112]⟩] 48 (0, 0))) := ⟨by rw [hW6]; exact Go.heap_alloc_new _ _⟩
          rw [← hW6] at HB6
          have hca : ∀ (o : Obj) (b i : Nat) (v : Value), wr.cell? ⟨b, i, none⟩ = some v → (wr.alloc o).cell? ⟨b, i, none⟩ = some v := fun o b i v h => pw_cell_below (below_alloc (Below.refl _ wr) o) h
          have E0 := fun o => hca o be 0 _ (EC.out wr HBl.out).1
          have E1 := fun o => hca o be 1 _ (EC.out wr HBl.out).2.1
          have E2 := fun o => hca o be 2 _ (EC.out wr HBl.out).2.2
          have Q0 := fun o => hca o bq 0 _ k0
          have Q1 := fun o => hca o bq 1 _ k1
          have Q2 := fun o => hca o bq 2 _ k2
          have Q3 := fun o => hca o bq 3 _ k3
          have Q4 := fun o => hca o bq 4 _ k4
          have Q5 := fun o => hca o bq 5 _ k5
          have Q6 := fun o => hca o bq 6 _ k6
          have Q7 := fun o => hca o bq 7 _ k7
          have Q8 := fun o => hca o bq 8 _ k8
          have Q9 := fun o => hca o bq 9 _ k9
          have HWd6 := Aside0.mk hW6
          have H6 : Aside0 (∀ W7, Below W6.heap.size W6 W7 → W7.heap[wr.heap.size]? = some (.cells #[.int .i64 fr, .int .i64 till, .slice A1 ms.length c1, .int .i64 t0, .string t1, .string t2, .slice A2 t3.length c2, .bool !desc, .int .i64 1, .string ⟨#[112]⟩] 48 (0, 0))) := ⟨fun W7 h => heap_below h HT6.out⟩
          clear hca hb6 hW6 HT6
          go_wp2_with fail
          rw [← HWd6.out]
          ((refine (HQ1.out _ HB6.out).mono ?_); rintro e w7 ⟨rfl, hb7⟩)
          have HT7 := Aside0.mk (H6.out w7 hb7)
          have HB7 := Aside0.mk (below_step HB6.out hb7)
          clear hb7 E0 E1 E2 Q0 Q1 Q2 Q3 Q4 Q5 Q6 Q7 Q8 Q9 k0 k1 k2 k3 k4 k5 k6 k7 k8 k9 H6
          obtain ⟨e0, e1, e2⟩ := EC.out w7 HB7.out
          have k0 : w7.cell? ⟨wr.heap.size, 0, none⟩ = some _ := (blk_cell HT7.out 0).trans rfl
          have k1 : w7.cell? ⟨wr.heap.size, 1, none⟩ = some _ := (blk_cell HT7.out 1).trans rfl
          have k2 : w7.cell? ⟨wr.heap.size, 2, none⟩ = some _ := (blk_cell HT7.out 2).trans rfl
          have k3 : w7.cell? ⟨wr.heap.size, 3, none⟩ = some _ := (blk_cell HT7.out 3).trans rfl
          have k4 : w7.cell? ⟨wr.heap.size, 4, none⟩ = some _ := (blk_cell HT7.out 4).trans rfl
          have k5 : w7.cell? ⟨wr.heap.size, 5, none⟩ = some _ := (blk_cell HT7.out 5).trans rfl
          have k6 : w7.cell? ⟨wr.heap.size, 6, none⟩ = some _ := (blk_cell HT7.out 6).trans rfl
          have k7 : w7.cell? ⟨wr.heap.size, 7, none⟩ = some _ := (blk_cell HT7.out 7).trans rfl
          have k8 : w7.cell? ⟨wr.heap.size, 8, none⟩ = some _ := (blk_cell HT7.out 8).trans rfl
          have k9 : w7.cell? ⟨wr.heap.size, 9, none⟩ = some _ := (blk_cell HT7.out 9).trans rfl
          cases kb with
          | true =>
            go_wp2_with fail
            ((refine (HQ2.out _ HB7.out).mono ?_); rintro e w8 ⟨rfl, hb8⟩)
            have HB8 := Aside0.mk (below_step HB7.out hb8)
            clear hb8
            go_wp2
            go_ret
            exact ⟨rfl, below_step HB.out HB8.out⟩
          | false =>
            go_wp2_with fail
            ((refine (HQ2.out _ HB7.out).mono ?_); rintro e w8 ⟨rfl, hb8⟩)
            have HB8 := Aside0.mk (below_step HB7.out hb8)
            clear hb8
            go_wp2
            go_ret
            exact ⟨rfl, below_step HB.out HB8.out⟩
    · have d2 : decide (x.at_ ≤ till) = false := decide_eq_false h2
      have HF : Aside0 (kb = (false && ms.all (mtB x))) := ⟨by rw [HKB.out, decide_eq_true h1, decide_eq_false h2, Bool.true_and, Bool.false_and, Bool.false_and]⟩
      have HBl : Aside0 (Below V.heap.size V V) := ⟨Below.refl _ _⟩
      clear h1 h2 HKB HL1
      go_wp2_with fail
      try rw [← HVd.out]
      try rw [← HKd.out]
      clear E0 E1 E2
      go_loopw [6, 43] (fun t6 t43 wr => ∃ i : Nat, i ≤ ms.length ∧ t43 = .int .i64 (i : Int) ∧ t6 = .bool (false && (ms.take i).all (mtB x)) ∧ Aside0 (Below V.heap.size V wr)) (fun _ t43 _ => ms.length - (intOf t43).toNat)
      case atStart => exact ⟨0, Nat.zero_le _, rfl, by simp, HBl⟩
      case round =>
        clear HBl
        obtain ⟨i, hi, rfl, rfl, HBl⟩ := hrel
        by_cases hlt : i < ms.length
        · obtain ⟨ad, hA, k0, k1, k2⟩ := at_T51 (MR.out wr HBl.out) (i : Int) (by omega) (by omega)
          rw [at_m hlt] at k0 k1 k2
          rw [Int.toNat_natCast] at k0 k1 k2
          have hta := take_all (mtB x) ms i hlt
          have hcall := Aside0.mk (fun o => HLab.out ms[i] (wr.alloc o) (below_alloc HBl.out o))
          have EC2 := Aside0.mk (fun o => EC.out (wr.alloc o) (below_alloc HBl.out o))
          subst hA
          obtain ⟨cv, hcv⟩ : ∃ cv, cv = (false && (ms.take i).all (mtB x)) := ⟨_, rfl⟩
          have hta2 : (false && (ms.take (i + 1)).all (mtB x)) = (cv && mtB x ms[i]) := by rw [hta, hcv, Bool.and_assoc]
          rw [← hcv]
          obtain ⟨y, hy⟩ : ∃ y, y = ms[i] := ⟨_, rfl⟩
          rw [← hy] at k0 k1 k2 hcall hta2
          obtain ⟨r, hr⟩ : ∃ r, r = mtB x y := ⟨_, rfl⟩
          rw [← hr] at hcall hta2
          have HTA := Aside0.mk hta2
          have Hlt := Aside0.mk hlt
          obtain ⟨y0, y1, y2⟩ := y
          unfold mtv at hcall
          dsimp only at k0 k1 k2 hcall
          have hc0 := fun o => (EC2.out o).1
          have hc1 := fun o => (EC2.out o).2.1
          have hc2 := fun o => (EC2.out o).2.2
          clear hta hta2 hcv hy hr EC2
          cases cv with
          | true =>
            go_wp2_with (go_at_call 31; refine (hcall.out _).mono ?_; rintro e w5 ⟨rfl, hb5⟩; have HB5 := Aside0.mk (below_step (below_alloc HBl.out _) hb5); clear hb5)
            go_roundw
            case rel => exact ⟨i + 1, by have := Hlt.out; omega, by rw [w64q _ (by have := Hlt.out; have := MF.out; omega)]; rfl, by rw [HTA.out, Bool.true_and], HB5⟩
            case measure => have h1 := Hlt.out; have h2 := MF.out; rw [w64q _ (by omega)]; simp [intOf]; omega
          | false =>
            clear hcall
            go_wp2
            go_roundw
            case rel => exact ⟨i + 1, by have := Hlt.out; omega, by rw [w64q _ (by have := Hlt.out; have := MF.out; omega)]; rfl, by rw [HTA.out, Bool.false_and], ⟨below_alloc HBl.out _⟩⟩
            case measure => have h1 := Hlt.out; have h2 := MF.out; rw [w64q _ (by omega)]; simp [intOf]; omega
        · obtain rfl : i = ms.length := by omega
          have hfin : (false && (ms.take ms.length).all (mtB x)) = kb := by rw [List.take_length]; exact HF.out.symm
          rw [hfin]
          clear hfin HF hlt hi
          obtain ⟨k0, k1, k2, k3, k4, k5, k6, k7, k8, k9⟩ := (QC.out wr HBl.out).cells
          have hb6 := below_alloc (Below.refl _ wr) (.cells #[.int .i64 fr, .int .i64 till, .slice A1 ms.length c1, .int .i64 t0, .string t1, .string t2, .slice A2 t3.length c2, .bool !desc, .int .i64 1, .string ⟨#[112]⟩] 48)
          dsimp only at k0 k1 k2 k3 k4 k5 k6 k7 k8 k9
          have HB6 := Aside0.mk (below_step HBl.out hb6)
          obtain ⟨W6, hW6⟩ : ∃ W6, W6 = wr.alloc (.cells #[.int .i64 fr, .int .i64 till, .slice A1 ms.length c1, .int .i64 t0, .string t1, .string t2, .slice A2 t3.length c2, .bool !desc, .int .i64 1, .string ⟨#[112]⟩] 48) := ⟨_, rfl⟩
          have HT6 : Aside0 (W6.heap[wr.heap.size]? = some (.cells #[.int .i64 fr, .int .i64 till, .slice A1 ms.length c1, .int .i64 t0, .string t1, .string t2, .slice A2 t3.length c2, .bool !desc, .int .i64 1, .string ⟨#[112]⟩] 48 (0, 0))) := ⟨by rw [hW6]; exact Go.heap_alloc_new _ _⟩
          rw [← hW6] at HB6
          have hca : ∀ (o : Obj) (b i : Nat) (v : Value), wr.cell? ⟨b, i, none⟩ = some v → (wr.alloc o).cell? ⟨b, i, none⟩ = some v := fun o b i v h => pw_cell_below (below_alloc (Below.refl _ wr) o) h
          have E0 := fun o => hca o be 0 _ (EC.out wr HBl.out).1
          have E1 := fun o => hca o be 1 _ (EC.out wr HBl.out).2.1
          have E2 := fun o => hca o be 2 _ (EC.out wr HBl.out).2.2
          have Q0 := fun o => hca o bq 0 _ k0
          have Q1 := fun o => hca o bq 1 _ k1
          have Q2 := fun o => hca o bq 2 _ k2
          have Q3 := fun o => hca o bq 3 _ k3
          have Q4 := fun o => hca o bq 4 _ k4
          have Q5 := fun o => hca o bq 5 _ k5
          have Q6 := fun o => hca o bq 6 _ k6
          have Q7 := fun o => hca o bq 7 _ k7
          have Q8 := fun o => hca o bq 8 _ k8
          have Q9 := fun o => hca o bq 9 _ k9
          have HWd6 := Aside0.mk hW6
          have H6 : Aside0 (∀ W7, Below W6.heap.size W6 W7 → W7.heap[wr.heap.size]? = some (.cells #[.int .i64 fr, .int .i64 till, .slice A1 ms.length c1, .int .i64 t0, .string t1, .string t2, .slice A2 t3.length c2, .bool !desc, .int .i64 1, .string ⟨#[112]⟩] 48 (0, 0))) := ⟨fun W7 h => heap_below h HT6.out⟩
          clear hca hb6 hW6 HT6
          go_wp2_with fail
          rw [← HWd6.out]
          ((refine (HQ1.out _ HB6.out).mono ?_); rintro e w7 ⟨rfl, hb7⟩)
          have HT7 := Aside0.mk (H6.out w7 hb7)
          have HB7 := Aside0.mk (below_step HB6.out hb7)
          clear hb7 E0 E1 E2 Q0 Q1 Q2 Q3 Q4 Q5 Q6 Q7 Q8 Q9 k0 k1 k2 k3 k4 k5 k6 k7 k8 k9 H6
          obtain ⟨e0, e1, e2⟩ := EC.out w7 HB7.out
          have k0 : w7.cell? ⟨wr.heap.size, 0, none⟩ = some _ := (blk_cell HT7.out 0).trans rfl
          have k1 : w7.cell? ⟨wr.heap.size, 1, none⟩ = some _ := (blk_cell HT7.out 1).trans rfl
          have k2 : w7.cell? ⟨wr.heap.size, 2, none⟩ = some _ := (blk_cell HT7.out 2).trans rfl
          have k3 : w7.cell? ⟨wr.heap.size, 3, none⟩ = some _ := (blk_cell HT7.out 3).trans rfl
          have k4 : w7.cell? ⟨wr.heap.size, 4, none⟩ = some _ := (blk_cell HT7.out 4).trans rfl
          have k5 : w7.cell? ⟨wr.heap.size, 5, none⟩ = some _ := (blk_cell HT7.out 5).trans rfl
          have k6 : w7.cell? ⟨wr.heap.size, 6, none⟩ = some _ := (blk_cell HT7.out 6).trans rfl
          have k7 : w7.cell? ⟨wr.heap.size, 7, none⟩ = some _ := (blk_cell HT7.out 7).trans rfl
          have k8 : w7.cell? ⟨wr.heap.size, 8, none⟩ = some _ := (blk_cell HT7.out 8).trans rfl
          have k9 : w7.cell? ⟨wr.heap.size, 9, none⟩ = some _ := (blk_cell HT7.out 9).trans rfl
          cases kb with
          | true =>
            go_wp2_with fail
            ((refine (HQ2.out _ HB7.out).mono ?_); rintro e w8 ⟨rfl, hb8⟩)
            have HB8 := Aside0.mk (below_step HB7.out hb8)
            clear hb8
            go_wp2
            go_ret
            exact ⟨rfl, below_step HB.out HB8.out⟩
          | false =>
            go_wp2_with fail
            ((refine (HQ2.out _ HB7.out).mono ?_); rintro e w8 ⟨rfl, hb8⟩)
            have HB8 := Aside0.mk (below_step HB7.out hb8)
            clear hb8
            go_wp2
            go_ret
            exact ⟨rfl, below_step HB.out HB8.out⟩
  · have d1 : decide (fr ≤ x.at_) = false := decide_eq_false h1
    have HF : Aside0 (kb = (false && ms.all (mtB x))) := ⟨by rw [HKB.out, decide_eq_false h1, Bool.false_and, Bool.false_and]⟩
    have HBl : Aside0 (Below V.heap.size V V) := ⟨Below.refl _ _⟩
    clear h1 HKB HL1
    go_wp2_with fail
    try rw [← HVd.out]
    try rw [← HKd.out]
    clear E0 E1 E2
    go_loopw [6, 43] (fun t6 t43 wr => ∃ i : Nat, i ≤ ms.length ∧ t43 = .int .i64 (i : Int) ∧ t6 = .bool (false && (ms.take i).all (mtB x)) ∧ Aside0 (Below V.heap.size V wr)) (fun _ t43 _ => ms.length - (intOf t43).toNat)
    case atStart => exact ⟨0, Nat.zero_le _, rfl, by simp, HBl⟩
    case round =>
      clear HBl
      obtain ⟨i, hi, rfl, rfl, HBl⟩ := hrel
      by_cases hlt : i < ms.length
      · obtain ⟨ad, hA, k0, k1, k2⟩ := at_T51 (MR.out wr HBl.out) (i : Int) (by omega) (by omega)
        rw [at_m hlt] at k0 k1 k2
        rw [Int.toNat_natCast] at k0 k1 k2
        have hta := take_all (mtB x) ms i hlt
        have hcall := Aside0.mk (fun o => HLab.out ms[i] (wr.alloc o) (below_alloc HBl.out o))
        have EC2 := Aside0.mk (fun o => EC.out (wr.alloc o) (below_alloc HBl.out o))
        subst hA
        obtain ⟨cv, hcv⟩ : ∃ cv, cv = (false && (ms.take i).all (mtB x)) := ⟨_, rfl⟩
        have hta2 : (false && (ms.take (i + 1)).all (mtB x)) = (cv && mtB x ms[i]) := by rw [hta, hcv, Bool.and_assoc]
        rw [← hcv]
        obtain ⟨y, hy⟩ : ∃ y, y = ms[i] := ⟨_, rfl⟩
        rw [← hy] at k0 k1 k2 hcall hta2
        obtain ⟨r, hr⟩ : ∃ r, r = mtB x y := ⟨_, rfl⟩
        rw [← hr] at hcall hta2
        have HTA := Aside0.mk hta2
        have Hlt := Aside0.mk hlt
        obtain ⟨y0, y1, y2⟩ := y
        unfold mtv at hcall
        dsimp only at k0 k1 k2 hcall
        have hc0 := fun o => (EC2.out o).1
        have hc1 := fun o => (EC2.out o).2.1
        have hc2 := fun o => (EC2.out o).2.2
        clear hta hta2 hcv hy hr EC2
        cases cv with
        | true =>
          go_wp2_with (go_at_call 31; refine (hcall.out _).mono ?_; rintro e w5 ⟨rfl, hb5⟩; have HB5 := Aside0.mk (below_step (below_alloc HBl.out _) hb5); clear hb5)
          go_roundw
          case rel => exact ⟨i + 1, by have := Hlt.out; omega, by rw [w64q _ (by have := Hlt.out; have := MF.out; omega)]; rfl, by rw [HTA.out, Bool.true_and], HB5⟩
          case measure => have h1 := Hlt.out; have h2 := MF.out; rw [w64q _ (by omega)]; simp [intOf]; omega
        | false =>
          clear hcall
          go_wp2
          go_roundw
          case rel => exact ⟨i + 1, by have := Hlt.out; omega, by rw [w64q _ (by have := Hlt.out; have := MF.out; omega)]; rfl, by rw [HTA.out, Bool.false_and], ⟨below_alloc HBl.out _⟩⟩
          case measure => have h1 := Hlt.out; have h2 := MF.out; rw [w64q _ (by omega)]; simp [intOf]; omega
      · obtain rfl : i = ms.length := by omega
        have hfin : (false && (ms.take ms.length).all (mtB x)) = kb := by rw [List.take_length]; exact HF.out.symm
        rw [hfin]
        clear hfin HF hlt hi
        obtain ⟨k0, k1, k2, k3, k4, k5, k6, k7, k8, k9⟩ := (QC.out wr HBl.out).cells
        have hb6 := below_alloc (Below.refl _ wr) (.cells #[.int .i64 fr, .int .i64 till, .slice A1 ms.length c1, .int .i64 t0, .string t1, .string t2, .slice A2 t3.length c2, .bool !desc, .int .i64 1, .string ⟨#[112]⟩] 48)
        dsimp only at k0 k1 k2 k3 k4 k5 k6 k7 k8 k9
        have HB6 := Aside0.mk (below_step HBl.out hb6)
        obtain ⟨W6, hW6⟩ : ∃ W6, W6 = wr.alloc (.cells #[.int .i64 fr, .int .i64 till, .slice A1 ms.length c1, .int .i64 t0, .string t1, .string t2, .slice A2 t3.length c2, .bool !desc, .int .i64 1, .string ⟨#[112]⟩] 48) := ⟨_, rfl⟩
        have HT6 : Aside0 (W6.heap[wr.heap.size]? = some (.cells #[.int .i64 fr, .int .i64 till, .slice A1 ms.length c1, .int .i64 t0, .string t1, .string t2, .slice A2 t3.length c2, .bool !desc, .int .i64 1, .string ⟨#[112]⟩] 48 (0, 0))) := ⟨by rw [hW6]; exact Go.heap_alloc_new _ _⟩
        rw [← hW6] at HB6
        have hca : ∀ (o : Obj) (b i : Nat) (v : Value), wr.cell? ⟨b, i, none⟩ = some v → (wr.alloc o).cell? ⟨b, i, none⟩ = some v := fun o b i v h => pw_cell_below (below_alloc (Below.refl _ wr) o) h
        have E0 := fun o => hca o be 0 _ (EC.out wr HBl.out).1
        have E1 := fun o => hca o be 1 _ (EC.out wr HBl.out).2.1
        have E2 := fun o => hca o be 2 _ (EC.out wr HBl.out).2.2
        have Q0 := fun o => hca o bq 0 _ k0
        have Q1 := fun o => hca o bq 1 _ k1
        have Q2 := fun o => hca o bq 2 _ k2
        have Q3 := fun o => hca o bq 3 _ k3
        have Q4 := fun o => hca o bq 4 _ k4
        have Q5 := fun o => hca o bq 5 _ k5
        have Q6 := fun o => hca o bq 6 _ k6
        have Q7 := fun o => hca o bq 7 _ k7
        have Q8 := fun o => hca o bq 8 _ k8
        have Q9 := fun o => hca o bq 9 _ k9
        have HWd6 := Aside0.mk hW6
        have H6 : Aside0 (∀ W7, Below W6.heap.size W6 W7 → W7.heap[wr.heap.size]? = some (.cells #[.int .i64 fr, .int .i64 till, .slice A1 ms.length c1, .int .i64 t0, .string t1, .string t2, .slice A2 t3.length c2, .bool !desc, .int .i64 1, .string ⟨#[112]⟩] 48 (0, 0))) := ⟨fun W7 h => heap_below h HT6.out⟩
        clear hca hb6 hW6 HT6
        go_wp2_with fail
        rw [← HWd6.out]
        ((refine (HQ1.out _ HB6.out).mono ?_); rintro e w7 ⟨rfl, hb7⟩)
        have HT7 := Aside0.mk (H6.out w7 hb7)
        have HB7 := Aside0.mk (below_step HB6.out hb7)
        clear hb7 E0 E1 E2 Q0 Q1 Q2 Q3 Q4 Q5 Q6 Q7 Q8 Q9 k0 k1 k2 k3 k4 k5 k6 k7 k8 k9 H6
        obtain ⟨e0, e1, e2⟩ := EC.out w7 HB7.out
        have k0 : w7.cell? ⟨wr.heap.size, 0, none⟩ = some _ := (blk_cell HT7.out 0).trans rfl
        have k1 : w7.cell? ⟨wr.heap.size, 1, none⟩ = some _ := (blk_cell HT7.out 1).trans rfl
        have k2 : w7.cell? ⟨wr.heap.size, 2, none⟩ = some _ := (blk_cell HT7.out 2).trans rfl
        have k3 : w7.cell? ⟨wr.heap.size, 3, none⟩ = some _ := (blk_cell HT7.out 3).trans rfl
        have k4 : w7.cell? ⟨wr.heap.size, 4, none⟩ = some _ := (blk_cell HT7.out 4).trans rfl
        have k5 : w7.cell? ⟨wr.heap.size, 5, none⟩ = some _ := (blk_cell HT7.out 5).trans rfl
        have k6 : w7.cell? ⟨wr.heap.size, 6, none⟩ = some _ := (blk_cell HT7.out 6).trans rfl
        have k7 : w7.cell? ⟨wr.heap.size, 7, none⟩ = some _ := (blk_cell HT7.out 7).trans rfl
        have k8 : w7.cell? ⟨wr.heap.size, 8, none⟩ = some _ := (blk_cell HT7.out 8).trans rfl
        have k9 : w7.cell? ⟨wr.heap.size, 9, none⟩ = some _ := (blk_cell HT7.out 9).trans rfl
        cases kb with
        | true =>
          go_wp2_with fail
          ((refine (HQ2.out _ HB7.out).mono ?_); rintro e w8 ⟨rfl, hb8⟩)
          have HB8 := Aside0.mk (below_step HB7.out hb8)
          clear hb8
          go_wp2
          go_ret
          exact ⟨rfl, below_step HB.out HB8.out⟩
        | false =>
          go_wp2_with fail
          ((refine (HQ2.out _ HB7.out).mono ?_); rintro e w8 ⟨rfl, hb8⟩)
          have HB8 := Aside0.mk (below_step HB7.out hb8)
          clear hb8
          go_wp2
          go_ret
          exact ⟨rfl, below_step HB.out HB8.out⟩
end Go.Proofs.YtfejjfbhlmjkeaaDoor.Q
end
