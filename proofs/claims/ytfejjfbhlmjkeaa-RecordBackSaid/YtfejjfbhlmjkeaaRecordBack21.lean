/- Texts of this claim (printed ones, too), put together by a program that left out what the claim does not use. -/
import Derived.Test.YtfejjfbhlmjkeaaRecordBack19
import Derived.Test.YtfejjfbhlmjkeaaRecordBack20
import Derived.Test.YtfejjfbhlmjkeaaRecordBack16
import Derived.Test.YtfejjfbhlmjkeaaRecordBack18
import Derived.Test.YtfejjfbhlmjkeaaRecordBack9
section
set_option linter.unusedVariables false
set_option linter.unusedSimpArgs false
namespace Go.Proofs.Ytfejjfbhlmjkeaa.C
open Go.RowKit Go.Proofs.YtfejjfbhlmjkeaaW.PrintWords Go.Proofs.YtfejjfbhlmjkeaaW.PrintLast Go.Proofs.YtfejjfbhlmjkeaaW.PrintMore Go.Proofs.Ytfejjfbhlmjkeaa.B Go.Proofs.Ytfejjfbhlmjkeaa.Reg Go.Proofs.Ytfejjfbhlmjkeaa.PRecordIs Go.Proofs.Ytfejjfbhlmjkeaa.CQ Go.Proofs.Ytfejjfbhlmjkeaa.Vi Go.Proofs.Ytfejjfbhlmjkeaa.N Go.Proofs.Ytfejjfbhlmjkeaa.Bt
/-- All that is known in a round of the reference's Get. -/
structure InRef (w0 w : World) (g : Nat) (S : ByteArray) (j0 j : Nat) (st : St) (at_ : Int) (v : Value) (line : ByteArray) (xs : List S47) : Prop where
  rs : MR w g S st
  box : w.heap[j]? = some (.cells #[.int .i64 at_, v, .string line] 34)
  res : w.heap[j0]? = some (.cells #[.int .i64 0, .slice none 0 0, .string ⟨#[]⟩] 34)
  own : w.ownsRow (j + 1) 47 2 v xs.length (labC xs)
  grown : w0.grownBy w (some g)
  lt : g < w0.heap.size ∧ w0.heap.size ≤ j0 ∧ j0 < j ∧ j < w.heap.size
section
variable {w0 w : World} {g : Nat} {S : ByteArray} {j0 j : Nat} {st : St} {at_ : Int} {v : Value} {line : ByteArray} {xs : List S47}
theorem InRef.drew (h : InRef w0 w g S j0 j st at_ v line xs) : InRef w0 w.drew g S j0 j st at_ v line xs :=
  ⟨h.rs.kept (row := none) ⟨rfl, rfl, rfl, Nat.le_refl _, fun _ _ _ => rfl⟩ (by simp), h.box, h.res, h.own, grown_drewN h.grown 1, h.lt⟩
theorem InRef.read {w' : World} {st' : St} (h : InRef w0 w g S j0 j st at_ v line xs) (hr : MR w' g S st') (hg : w.grownBy w' (some g)) : InRef w0 w' g S j0 j st' at_ v line xs := by
  obtain ⟨l1, l3, l4, l5⟩ := h.lt
  exact ⟨hr, (hg.block j l5 (by simp; omega)).trans h.box, (hg.block j0 (by omega) (by simp; omega)).trans h.res, owns_kept h.own hg (fun k hk => by cases hk; omega), h.grown.trans hg, l1, l3, l4, Nat.lt_of_lt_of_le l5 hg.size⟩
theorem InRef.alloc (h : InRef w0 w g S j0 j st at_ v line xs) (o : Obj) : InRef w0 (w.alloc o) g S j0 j st at_ v line xs := by
  obtain ⟨l1, l3, l4, l5⟩ := h.lt
  have hg := World.grownBy_alloc w o none
  exact ⟨h.rs.kept hg (by simp), (hg.block j l5 (by simp)).trans h.box, (hg.block j0 (by omega) (by simp)).trans h.res, h.own.alloc o, grown_alloc h.grown o, l1, l3, l4, Nat.lt_of_lt_of_le l5 hg.size⟩
theorem InRef.below {w' : World} (h : InRef w0 w g S j0 j st at_ v line xs) (hb : Below w.heap.size w w') : InRef w0 w' g S j0 j st at_ v line xs := by
  obtain ⟨l1, l3, l4, l5⟩ := h.lt
  have hg := grown_of_below hb none
  exact ⟨h.rs.kept hg (by simp), (hg.block j l5 (by simp)).trans h.box, (hg.block j0 (by omega) (by simp)).trans h.res, owns_kept h.own hg (fun k hk => by cases hk), grown_new h.grown hg (fun k hk => by cases hk), l1, l3, l4, Nat.lt_of_lt_of_le l5 hg.size⟩
theorem InRef.more {w' : World} {v' : Value} {ys : List S47} (h : InRef w0 w g S j0 j st at_ v line xs) (hg : w.grownBy w' v.ownBlock) (hown : w'.ownsRow (j + 1) 47 2 v' ys.length (labC ys)) :
    InRef w0 (w'.setCell ⟨j, 1, none⟩ v') g S j0 j st at_ v' line ys := by
  obtain ⟨l1, l3, l4, l5⟩ := h.lt
  have hv := owns_block h.own
  have n : ∀ i, i ≤ j → v.ownBlock ≠ some i := fun i hi e => by have := hv i e; omega
  have hb : w'.heap[j]? = some (.cells #[.int .i64 at_, v, .string line] 34) := (hg.block j l5 (Ne.symm (n j (Nat.le_refl _)))).trans h.box
  have hs := grown_set w' j 1 v'
  refine ⟨(h.rs.kept hg (Ne.symm (n g (by omega)))).kept hs (by simp; omega), blk_set3 hb v', ?_, ownsRow_setCell_below hown (Nat.lt_succ_self j) v', ?_, l1, l3, l4, Nat.lt_of_lt_of_le l5 (Nat.le_trans hg.size hs.size)⟩
  · exact (hs.block j0 (by have := hg.size; omega) (by simp; omega)).trans ((hg.block j0 (by omega) (Ne.symm (n j0 (by omega)))).trans h.res)
  · exact grown_new (grown_new h.grown hg (fun k hk => by have := hv k hk; omega)) hs (fun k hk => by cases hk; omega)
theorem InRef.time (h : InRef w0 w g S j0 j st at_ v line xs) (t : Int) : InRef w0 (w.setCell ⟨j, 0, none⟩ (.int .i64 t)) g S j0 j st t v line xs := by
  obtain ⟨l1, l3, l4, l5⟩ := h.lt
  have hs := grown_set w j 0 (.int .i64 t)
  exact ⟨h.rs.kept hs (by simp; omega), blk_set h.box 0 _, (hs.block j0 (by omega) (by simp; omega)).trans h.res, ownsRow_setCell_below h.own (Nat.lt_succ_self j) _, grown_new h.grown hs (fun k hk => by cases hk; omega), l1, l3, l4, Nat.lt_of_lt_of_le l5 hs.size⟩
end
end Go.Proofs.Ytfejjfbhlmjkeaa.C
end
section
set_option linter.unusedVariables false
set_option linter.unusedSimpArgs false
namespace Go.Proofs.Ytfejjfbhlmjkeaa.C
open Go.RowKit Go.Proofs.YtfejjfbhlmjkeaaW.PrintWords Go.Proofs.YtfejjfbhlmjkeaaW.PrintLast Go.Proofs.YtfejjfbhlmjkeaaW.PrintMore Go.Proofs.Ytfejjfbhlmjkeaa.B Go.Proofs.Ytfejjfbhlmjkeaa.Reg Go.Proofs.Ytfejjfbhlmjkeaa.PRecordIs Go.Proofs.Ytfejjfbhlmjkeaa.CQ Go.Proofs.Ytfejjfbhlmjkeaa.Vi Go.Proofs.Ytfejjfbhlmjkeaa.N Go.Proofs.Ytfejjfbhlmjkeaa.Bt
end Go.Proofs.Ytfejjfbhlmjkeaa.C
end
section
set_option linter.unusedVariables false
set_option linter.unusedSimpArgs false
namespace Go.Proofs.Ytfejjfbhlmjkeaa.N
open Go.RowKit Go.Proofs.YtfejjfbhlmjkeaaW.PrintWords Go.Proofs.YtfejjfbhlmjkeaaW.PrintLast Go.Proofs.Ytfejjfbhlmjkeaa.Bt Go.Proofs.Ytfejjfbhlmjkeaa.B Go.Proofs.Ytfejjfbhlmjkeaa.Vi Go.Proofs.Ytfejjfbhlmjkeaa.Reg
end Go.Proofs.Ytfejjfbhlmjkeaa.N
namespace Go.Proofs.Ytfejjfbhlmjkeaa.C
open Go.RowKit Go.Sort Go.Proofs.YtfejjfbhlmjkeaaW.PrintWords Go.Proofs.YtfejjfbhlmjkeaaW.PrintLast Go.Proofs.YtfejjfbhlmjkeaaW.PrintMore Go.Proofs.Ytfejjfbhlmjkeaa.B Go.Proofs.Ytfejjfbhlmjkeaa.Reg Go.Proofs.Ytfejjfbhlmjkeaa.PRecordIs Go.Proofs.Ytfejjfbhlmjkeaa.CQ Go.Proofs.Ytfejjfbhlmjkeaa.Vi Go.Proofs.Ytfejjfbhlmjkeaa.N Go.Proofs.Ytfejjfbhlmjkeaa.Bt
/-- Are they the same? -/
def sameK (a b : Key) : Bool := decide (cmpE a b = 0)
theorem sameK_iff (a b : Key) : sameK a b = true ↔ a = b := by unfold sameK; rw [decide_eq_true_iff]; exact cmpE_c.eq0 a b
theorem sameK_refl (a : Key) : sameK a a = true := (sameK_iff a a).2 rfl
theorem same_key (a b : Key) : (!bef a b && !bef b a) = sameK a b := by
  unfold bef sameK
  have an := cmpE_c.anti a b
  rcases cmpE_c.tri a b with h | h | h
  · rw [h]; rfl
  · rw [h] at an ⊢
    rw [show cmpE b a = 0 by omega]; rfl
  · rw [h] at an ⊢
    rw [show cmpE b a = -1 by omega]; rfl
set_option maxRecDepth 20000 in
theorem refSame_any (x y : Ent) (w : World) (hx : x.In w) (hy : y.In w) : Calls Try.prog 42 #[x.val, y.val] w fun e w' => e = .returned (.bool (sameK x.key y.key)) ∧ Below w.heap.size w w' := by
  rw [← same_key]
  obtain ⟨W, hW⟩ : ∃ W, W = (w.alloc (.cells #[.int .i64 x.at_, .slice x.A x.ls.length x.c, .string x.line] 34)).alloc (.cells #[.int .i64 y.at_, .slice y.A y.ls.length y.c, .string y.line] 34) := ⟨_, rfl⟩
  obtain ⟨j, hj⟩ : ∃ j, j = w.heap.size := ⟨_, rfl⟩
  have HB : Aside0 (Below w.heap.size w W) := ⟨by rw [hW]; exact below_alloc (below_alloc (Below.refl _ w) _) _⟩
  have XA : Aside0 (BoxE W j x) := ⟨by rw [hW, hj]; exact blk_alloc (Go.heap_alloc_new w _) _⟩
  have XB : Aside0 (BoxE W (j + 1) y) := ⟨by rw [hW, hj]; exact box1 w _ _⟩
  have IA := Aside0.mk (hx.below HB.out)
  have IB := Aside0.mk (hy.below HB.out)
  obtain ⟨p, hp⟩ : ∃ p, p = bef x.key y.key := ⟨_, rfl⟩
  obtain ⟨q, hq⟩ : ∃ q, q = bef y.key x.key := ⟨_, rfl⟩
  rw [← hp, ← hq]
  have HQ0 : Aside0 (∀ V, Below W.heap.size W V → Calls Try.prog 21 #[x.val, y.val] V fun e w' => e = .returned (.bool p) ∧ Below V.heap.size V w') := ⟨fun V h => by rw [hp]; exact before_any x y V (IA.out.below h) (IB.out.below h)⟩
  have HQ1 : Aside0 (∀ V, Below W.heap.size W V → Calls Try.prog 21 #[y.val, x.val] V fun e w' => e = .returned (.bool q) ∧ Below V.heap.size V w') := ⟨fun V h => by rw [hq]; exact before_any y x V (IB.out.below h) (IA.out.below h)⟩
  have HW := Aside0.mk hW
  have HJ := Aside0.mk hj
  clear hW hj hp hq hx hy IA IB
  unfold Ent.val at HQ0 HQ1 ⊢
  go_enter Try.func42, Try.ntmps42
  go_wp2_with fail
  try rw [← HW.out]
  try rw [← HJ.out]
  clear HW HJ
  have a0 : W.cell? _ = _ := XA.out.c0
  have a1 : W.cell? _ = _ := XA.out.c1
  have a2 : W.cell? _ = _ := XA.out.c2
  have b0 : W.cell? _ = _ := XB.out.c0
  have b1 : W.cell? _ = _ := XB.out.c1
  have b2 : W.cell? _ = _ := XB.out.c2
  go_wp2_with fail
  clear a0 a1 a2 b0 b1 b2
  ((refine (HQ0.out _ (Below.refl _ _)).mono ?_); rintro e w1 ⟨rfl, hb1⟩)
  have HB := Aside0.mk (below_step HB.out hb1)
  have XA := Aside0.mk (XA.out.below hb1)
  have XB := Aside0.mk (XB.out.below hb1)
  have HQ1 := Aside0.mk (HQ1.out _ hb1)
  clear hb1 HQ0
  cases p with
  | true =>
    go_wp2
    go_ret
    exact ⟨rfl, HB.out⟩
  | false =>
    have a0 : w1.cell? _ = _ := XA.out.c0
    have a1 : w1.cell? _ = _ := XA.out.c1
    have a2 : w1.cell? _ = _ := XA.out.c2
    have b0 : w1.cell? _ = _ := XB.out.c0
    have b1 : w1.cell? _ = _ := XB.out.c1
    have b2 : w1.cell? _ = _ := XB.out.c2
    go_wp2_with fail
    clear a0 a1 a2 b0 b1 b2
    ((refine (HQ1.out).mono ?_); rintro e w2 ⟨rfl, hb1⟩)
    have HB := Aside0.mk (below_step HB.out hb1)
    clear hb1 HQ1 XA XB
    go_wp2
    go_ret
    exact ⟨by simp, HB.out⟩
theorem In.kept {x : Ent} {w w' : World} {row : Option Nat} (h : x.In w) (hg : w.grownBy w' row) (hne : ∀ a, x.A = some a → 0 < x.ls.length → some a.block ≠ row) : x.In w' :=
  ⟨⟨h.lies.1, h.lies.2.1, fun hn => by
    obtain ⟨ad, e, hc⟩ := h.lies.2.2 hn
    refine ⟨ad, e, fun j p hj => ?_⟩
    obtain ⟨c, hs, hr, hcell⟩ := hc j p hj
    exact ⟨c, hs, hr, fun i u hu => hg.cell (hcell i u hu) (by rw [add_block]; exact hne ad e hn)⟩⟩, h.cap, h.few⟩
end Go.Proofs.Ytfejjfbhlmjkeaa.C
end
section
set_option linter.unusedVariables false
set_option linter.unusedSimpArgs false
namespace Go.Proofs.Ytfejjfbhlmjkeaa.C
open Go.RowKit Go.Proofs.YtfejjfbhlmjkeaaW.PrintWords Go.Proofs.YtfejjfbhlmjkeaaW.PrintLast Go.Proofs.YtfejjfbhlmjkeaaW.PrintMore Go.Proofs.Ytfejjfbhlmjkeaa.B Go.Proofs.Ytfejjfbhlmjkeaa.Reg Go.Proofs.Ytfejjfbhlmjkeaa.PRecordIs Go.Proofs.Ytfejjfbhlmjkeaa.CQ Go.Proofs.Ytfejjfbhlmjkeaa.Vi Go.Proofs.Ytfejjfbhlmjkeaa.N Go.Proofs.Ytfejjfbhlmjkeaa.Bt
theorem not_many {xs : List Ent} {most : Int} (h : manyB xs most = false) : (xs.length : Int) ≤ most ∧ ∀ x ∈ xs, greatB x.key = false := by
  unfold manyB at h
  rw [Bool.or_eq_false_iff, decide_eq_false_iff_not] at h
  refine ⟨by omega, fun x hx => ?_⟩
  have := h.2
  rw [List.any_eq_false] at this
  simpa using this x hx
theorem short_ng {k : Key} (h : greatB k = false) : Short k.ls := ⟨by have := (great_few h).1; omega, fun x hx => by have := (great_few h).2.2 x hx; omega⟩
/-- Put onto nothing. -/
theorem putNil {w : World} (x : Ent) (hx : x.In w) (hs : Short x.ls) (hln : x.line.size ≤ 1000000) (h0 : -9223372036854775808 ≤ x.at_ ∧ x.at_ ≤ 9223372036854775807) (V : World) (hV : Below w.heap.size w V) :
    Calls Try.prog 37 #[.slice none 0 0, x.val] V fun e w' => ∃ v', e = .returned v' ∧ B.Own w' w.heap.size 5 v' (cs (entB x.key)) ∧ Below V.heap.size V w' :=
  (putE_any (w0 := w) (.slice none 0 0) [] x hV hx hs hln h0 (B.Own.nil _ _ _) (Nat.zero_le _)).mono fun e w' ⟨v', h1, h2, h3, _⟩ => ⟨v', h1, by simpa using h2, (Below.refl _ V).grown h3 (Nat.le_refl _) (fun k hk => by cases hk)⟩
/-- What is known in a round of the first loop. -/
structure InBack (w wr : World) (j3 : Nat) (e : Ent) (v : Value) (l : List UInt8) : Prop where
  below : Below w.heap.size w wr
  box : BoxE wr j3 e
  own : B.Own wr w.heap.size 5 v (cs l)
  ne : v.ownBlock ≠ some j3
theorem InBack.step {w wr w' : World} {j3 : Nat} {e : Ent} {v : Value} {l : List UInt8} (h : InBack w wr j3 e v l) (hb : Below wr.heap.size wr w') : InBack w w' j3 e v l :=
  ⟨below_step h.below hb, h.box.below hb, h.own.below hb, h.ne⟩
theorem InBack.drew {w wr : World} {j3 : Nat} {e : Ent} {v : Value} {l : List UInt8} (h : InBack w wr j3 e v l) : InBack w wr.drew j3 e v l := h.step (pw_below_drewN (Below.refl _ _) 1)
theorem InBack.put {w wr w' : World} {j3 : Nat} {e : Ent} {v v' : Value} {l l' : List UInt8} (h : InBack w wr j3 e v l) (hO : B.Own w' w.heap.size 5 v' (cs l')) (hg : wr.grownBy w' v.ownBlock) (hn : Near wr v v') : InBack w w' j3 e v' l' :=
  ⟨h.below.grown hg h.below.size (fun k hk => (h.own.lt k hk).1), (hg.block j3 h.box.lt (Ne.symm h.ne)).trans h.box, hO, near_ne hn h.box.lt h.ne⟩
def T_magpielaw04_RecordBack_11 : Bool × List (List Nat × List Nat) := (true, [([], []), ([0], [0]), ([1], [1]), ([], []), ([3, 1], [3]), ([4], [4]), ([2, 5], [2, 5]), ([], []), ([], []), ([7, 8, 4], [7, 8]), ([6, 9], [6, 9])])
def B_magpielaw04_RecordBack_11 : List Nat := [0, 1, 3, 0, 11, 27, 63, 0, 0, 411, 1023]
theorem tab_magpielaw04_RecordBack_11 : rtab .any (opsOf Try.f11 11) = T_magpielaw04_RecordBack_11 := by kernel_rfl
theorem bits_magpielaw04_RecordBack_11 : waitsOk T_magpielaw04_RecordBack_11.2 B_magpielaw04_RecordBack_11 = true := by kernel_rfl
set_option maxRecDepth 20000 in
set_option maxHeartbeats 16000000 in
theorem recordBack_all (A : Option Addr) (cap : Nat) (xs : List Ent) (e : Ent) (w : World) (hE : Ents w A cap xs) (hr : e.Raw w) (hC : Con w) :
    Calls Try.prog 11 #[.slice A xs.length cap, e.val] w fun e w' => e = .returned (.bool true) ∧ Below w.heap.size w w' := by
  obtain ⟨W0, hW0⟩ : ∃ V, V = w.alloc (.cells #[.int .i64 e.at_, .slice e.A e.ls.length e.c, .string e.line] 34) := ⟨_, rfl⟩
  obtain ⟨j3, hj3⟩ : ∃ j, j = w.heap.size := ⟨_, rfl⟩
  have HB : Aside0 (Below w.heap.size w W0) := ⟨by rw [hW0]; exact below_alloc (Below.refl _ _) _⟩
  have XB : Aside0 (BoxE W0 j3 e) := ⟨by rw [hW0, hj3]; exact Go.heap_alloc_new _ _⟩
  have HJ3 : Aside0 (j3 = w.heap.size) := ⟨hj3⟩
  have HA := Aside0.mk (alive_any W0 (hC.below HB.out))
  have HE := Aside0.mk hE
  have HRw := Aside0.mk hr
  have HC := Aside0.mk hC
  have HN : Aside0 (xs.length ≤ 9223372036854775807) := ⟨by have h1 := hE.room; have h2 := hE.most; simp only [maxLen] at h2; omega⟩
  have HWd := Aside0.mk hW0
  have HJd := Aside0.mk hj3
  clear hE hr hC hW0 hj3
  unfold Ent.val
  go_enter Try.func11, Try.ntmps11
  go_wp2_with fail
  try rw [← HWd.out]
  try rw [← HJd.out]
  clear HWd HJd
  ((refine (HA.out).mono ?_); rintro er w1 ⟨rfl, hb1⟩)
  have HB := Aside0.mk (below_step HB.out hb1)
  have XB := Aside0.mk (XB.out.below hb1)
  clear hb1 HA
  obtain ⟨mn, hmn⟩ : ∃ m, m = manyB xs 30 := ⟨_, rfl⟩
  have HM : Aside0 (Calls Try.prog 24 #[.slice A xs.length cap, .int .i64 30] w1 fun e w' => e = .returned (.bool mn) ∧ Below w1.heap.size w1 w') := ⟨by rw [hmn]; exact many_any A cap xs 30 w1 (HE.out.below HB.out)⟩
  have Hmn := Aside0.mk hmn
  clear hmn
  go_wp2_with fail
  ((refine (HM.out).mono ?_); rintro er w2 ⟨rfl, hb2⟩)
  have HB := Aside0.mk (below_step HB.out hb2)
  have XB := Aside0.mk (XB.out.below hb2)
  clear hb2 HM
  cases mn with
  | true =>
    go_wp2
    go_ret
    exact ⟨rfl, HB.out⟩
  | false =>
  have HMany := Aside0.mk (not_many Hmn.out.symm)
  clear Hmn
  obtain ⟨gr, hgr⟩ : ∃ m, m = greatB e.key := ⟨_, rfl⟩
  have HG : Aside0 (Calls Try.prog 20 #[e.val] w2 fun e w' => e = .returned (.bool gr) ∧ Below w2.heap.size w2 w') := ⟨by rw [hgr]; exact great_any e w2 (HRw.out.below HB.out)⟩
  have Hgr := Aside0.mk hgr
  clear hgr
  unfold Ent.val at HG
  have a0 : w2.cell? _ = _ := XB.out.c0
  have a1 : w2.cell? _ = _ := XB.out.c1
  have a2 : w2.cell? _ = _ := XB.out.c2
  go_wp2_with fail
  clear a0 a1 a2
  ((refine (HG.out).mono ?_); rintro er w3 ⟨rfl, hb3⟩)
  have HB := Aside0.mk (below_step HB.out hb3)
  have XB := Aside0.mk (XB.out.below hb3)
  clear hb3 HG
  cases gr with
  | true =>
    go_wp2
    go_ret
    exact ⟨rfl, HB.out⟩
  | false =>
  have HeS := Aside0.mk (short_ng Hgr.out.symm)
  have HeI : Aside0 (e.In w) := ⟨HRw.out.in_ (Nat.le_trans (great_few Hgr.out.symm).1 (by decide))⟩
  have HeL : Aside0 (e.line.size ≤ 1000000) := ⟨Nat.le_trans (great_few Hgr.out.symm).2.1 (by decide)⟩
  have HP2 : Aside0 (∀ V, Below w.heap.size w V → Calls Try.prog 37 #[.slice none 0 0, e.val] V fun r w' => ∃ v', r = .returned v' ∧ B.Own w' w.heap.size 5 v' (cs (entB e.key)) ∧ Below V.heap.size V w') := ⟨putNil e HeI.out HeS.out HeL.out HRw.out.time⟩
  clear Hgr
  have HIn : Aside0 (InBack w w3 j3 e (.slice none 0 0) []) := ⟨⟨HB.out, XB.out, B.Own.nil _ _ _, by simp [Value.ownBlock]⟩⟩
  clear HB XB
  go_wp2
  go_loopw [5, 23] (fun t5 t23 wr => ∃ (i : Nat) (v : Value), i ≤ xs.length ∧ t5 = v ∧ t23 = .int .i64 (i : Int) ∧ Aside0 (InBack w wr j3 e v (allB ((xs.take i).map Ent.key))) ∧ Aside0 (∀ y ∈ xs.take i, goodE y.key = true)) (fun _ t23 _ => xs.length - (intOf t23).toNat)
  case atStart => exact ⟨0, _, Nat.zero_le _, rfl, rfl, HIn, ⟨by simp⟩⟩
  case round =>
    clear HIn
    obtain ⟨i, v, hi, hv, rfl, HIn, HGd⟩ := hrel
    replace hv := hv.symm
    subst hv
    by_cases hlt : i < xs.length
    · obtain ⟨a, rfl⟩ := HE.out.some hlt
      have HX := Aside0.mk ((HE.out.at_ a rfl i hlt).below HIn.out.below)
      have HX0 := Aside0.mk (HE.out.at_ a rfl i hlt).raw
      obtain ⟨x, hx⟩ : ∃ x, x = xs[i] := ⟨_, rfl⟩
      rw [← hx] at HX HX0
      have HMem : Aside0 (x ∈ xs) := ⟨by rw [hx]; exact List.getElem_mem hlt⟩
      have HTk : Aside0 (xs.take (i + 1) = xs.take i ++ [x]) := ⟨by rw [hx, List.take_add_one, List.getElem?_eq_getElem hlt]; rfl⟩
      obtain ⟨W, hW⟩ : ∃ W, W = wr.alloc (.cells #[.int .i64 x.at_, .slice x.A x.ls.length x.c, .string x.line] 34) := ⟨_, rfl⟩
      obtain ⟨j, hj⟩ : ∃ j, j = wr.heap.size := ⟨_, rfl⟩
      have hb0 : Below wr.heap.size wr W := by rw [hW]; exact below_alloc (Below.refl _ _) _
      have XA : Aside0 (BoxE W j x) := ⟨by rw [hW, hj]; exact Go.heap_alloc_new _ _⟩
      have HXf := Aside0.mk (great_few (HMany.out.2 x HMem.out))
      have HXi : Aside0 (x.In w) := ⟨HX0.out.in_ (Nat.le_trans HXf.out.1 (by decide))⟩
      have HIn := Aside0.mk (HIn.out.step hb0)
      obtain ⟨gd, hgd⟩ : ∃ g, g = goodE x.key := ⟨_, rfl⟩
      have HG : Aside0 (Calls Try.prog 33 #[x.val] W fun e w' => e = .returned (.bool gd) ∧ Below W.heap.size W w') := ⟨by rw [hgd]; exact refGood_any x W (HXi.out.below HIn.out.below) (fun y hy => (HXf.out.2.2 y hy).1)⟩
      have Hgd := Aside0.mk hgd
      have k0 := HX.out.c0
      have k1 := HX.out.c1
      have k2 := HX.out.c2
      have HWd := Aside0.mk hW
      have HJd := Aside0.mk hj
      have Hlt := Aside0.mk hlt
      unfold Ent.val at HG
      clear hx hW hj hgd HX hb0
      go_wp2_with fail
      try rw [← HWd.out]
      try rw [← HJd.out]
      clear k0 k1 k2 HWd HJd
      have a0 : W.cell? _ = _ := XA.out.c0
      have a1 : W.cell? _ = _ := XA.out.c1
      have a2 : W.cell? _ = _ := XA.out.c2
      go_wp2_with fail
      clear a0 a1 a2
      ((refine (HG.out).mono ?_); rintro er w5 ⟨rfl, hb5⟩)
      have HIn := Aside0.mk (HIn.out.step hb5)
      have XA := Aside0.mk (XA.out.below hb5)
      clear hb5 HG
      cases gd with
      | false =>
        go_wp2
        go_ret
        exact ⟨rfl, HIn.out.below⟩
      | true =>
        have HXg := Aside0.mk Hgd.out.symm
        have HXs := Aside0.mk (short_good HXg.out)
        have HXl : Aside0 (x.line.size ≤ 1000000) := ⟨Nat.le_trans (good_few HXg.out).2.2.2 (by decide)⟩
        have HP1 : Aside0 (∀ V, Below w.heap.size w V → Calls Try.prog 37 #[.slice none 0 0, x.val] V fun r w' => ∃ v', r = .returned v' ∧ B.Own w' w.heap.size 5 v' (cs (entB x.key)) ∧ Below V.heap.size V w') := ⟨putNil x HXi.out HXs.out HXl.out HX0.out.time⟩
        obtain ⟨sm, hsm⟩ : ∃ s, s = sameK x.key e.key := ⟨_, rfl⟩
        have HSm : Aside0 (∀ V, Below w.heap.size w V → Calls Try.prog 42 #[x.val, e.val] V fun r w' => r = .returned (.bool sm) ∧ Below V.heap.size V w') := ⟨fun V h => by rw [hsm]; exact refSame_any x e V (HXi.out.below h) (HeI.out.below h)⟩
        obtain ⟨p, hp⟩ : ∃ p, p = str (entB x.key) := ⟨_, rfl⟩
        obtain ⟨q, hq⟩ : ∃ q, q = str (entB e.key) := ⟨_, rfl⟩
        have HEq : Aside0 ((p.toList == q.toList) = sm) := ⟨by
          rw [hp, hq, hsm, Bool.eq_iff_iff, beq_iff_eq, sameK_iff]
          exact ⟨fun h => entB_inj (str_inj (toList_inj h)), fun h => by rw [h]⟩⟩
        have HPu : Aside0 (∀ V, InBack w V j3 e v (allB ((xs.take i).map Ent.key)) → Calls Try.prog 37 #[v, x.val] V fun r w' => ∃ v', r = .returned v' ∧ InBack w w' j3 e v' (allB ((xs.take (i + 1)).map Ent.key))) := ⟨fun V h => by
          have hl : (allB ((xs.take i).map Ent.key)).length ≤ 500000 := by
            have h1 := allB_small ((xs.take i).map Ent.key) (fun k hk => by
              obtain ⟨y, hy, rfl⟩ := List.mem_map.1 hk
              exact HGd.out y hy)
            have h2 := HMany.out.1
            rw [List.length_map, List.length_take] at h1
            omega
          refine (More.putE_more (w0 := w) v _ x h.below HXi.out HXs.out HXl.out HX0.out.time h.own hl).mono fun r w' ⟨v', e1, e2, e3, e4⟩ => ⟨v', e1, ?_⟩
          rw [HTk.out, List.map_append, List.map_cons, List.map_nil, allB_snoc]
          exact h.put e2 e3 e4⟩
        have HGd : Aside0 (∀ y ∈ xs.take (i + 1), goodE y.key = true) := ⟨fun y hy => by
          rw [HTk.out, List.mem_append, List.mem_singleton] at hy
          rcases hy with hy | rfl
          · exact HGd.out y hy
          · exact HXg.out⟩
        have Hp := Aside0.mk hp
        have Hq := Aside0.mk hq
        clear hsm hp hq Hgd
        unfold Ent.val at HP1 HP2 HSm HPu
        obtain ⟨HEq⟩ := HEq
        have HB : Aside0 (Below w5.heap.size w5 w5) := ⟨Below.refl _ _⟩
        go_wp2_with fail
        refine start_ (n := 11) (S := fun x_ => Below w5.heap.size w5 x_) (ds := []) #[false, false, false, false, false, false, false, false, false, false, false] (by kernel_rfl) rfl rfl (pw_below_drewN (Below.refl _ _) 1) (fun hHeld => ?_)
        refine with_tabW tab_magpielaw04_RecordBack_11 bits_magpielaw04_RecordBack_11 (fun HT_ HW_ => ?_)
        have HB := Aside0.mk (pw_below_drewN HB.out 1)
        change Aside0 (Below _ _ (World.drew w5)) at HB
        change Below _ _ (World.drew w5) at hHeld
        have hSz : (World.drew w5).heap.size = w5.heap.size := rfl
        have HIn := Aside0.mk (show InBack w (World.drew w5) j3 e v _ from HIn.out.drew)
        have XA := Aside0.mk (show BoxE (World.drew w5) j x from XA.out)
        refine wpAnyLast_str (S' := fun x_ => Below (World.drew w5).heap.size (World.drew w5) x_) (fun x_ hx_ => below_step hHeld hx_) (Below.refl _ _) ?_
        clear hHeld hSz
        generalize World.drew w5 = w5d at *
        have HS := Aside0.mk (Below.refl w5d.heap.size w5d)
        refine take_ (i := 0) (N := (some 30)) (v := ?_) (a' := ?_) #[true, false, false, false, false, false, false, false, false, false, false] rfl rfl (take_ofW HT_.out HW_.out (by kernel_rfl)) (fun _ _ _ h => h) (Or.inl ⟨by rfl, ?_⟩) (Below.refl _ _) ?_ ?_
        rotate_left
        · intro Wx hWx
          have h0 := (XA.out.below hWx).c0
          have h1 := (XA.out.below hWx).c1
          have h2 := (XA.out.below hWx).c2
          go_simp
          try with_reducible rfl
        rotate_left
        · simp only [Act.put, List.setIfInBounds_toArray, List.set_cons_zero, List.set_cons_succ, i64_w, i32_w]
          rfl
        refine take_ (i := 3) (N := (some 33)) (v := ?_) (a' := ?_) #[true, false, false, true, false, false, false, false, false, false, false] rfl rfl (take_ofW HT_.out HW_.out (by kernel_rfl)) (fun _ _ _ h => h) (Or.inl ⟨by rfl, ?_⟩) (Below.refl _ _) ?_ ?_
        rotate_left
        · intro Wx hWx
          have h0 := (HIn.out.box.below hWx).c0
          have h1 := (HIn.out.box.below hWx).c1
          have h2 := (HIn.out.box.below hWx).c2
          go_simp
          try with_reducible rfl
        rotate_left
        · simp only [Act.put, List.setIfInBounds_toArray, List.set_cons_zero, List.set_cons_succ, i64_w, i32_w]
          rfl
        refine take_ (i := 7) (N := (some 37)) (v := ?_) (a' := ?_) #[true, false, false, true, false, false, false, true, false, false, false] rfl rfl (take_ofW HT_.out HW_.out (by kernel_rfl)) (fun _ _ _ h => h) (Or.inl ⟨by rfl, ?_⟩) (Below.refl _ _) ?_ ?_
        rotate_left
        · intro Wx hWx
          have h0 := (XA.out.below hWx).c0
          have h1 := (XA.out.below hWx).c1
          have h2 := (XA.out.below hWx).c2
          go_simp
          try with_reducible rfl
        rotate_left
        · simp only [Act.put, List.setIfInBounds_toArray, List.set_cons_zero, List.set_cons_succ, i64_w, i32_w]
          rfl
        refine take_ (i := 8) (N := (some 38)) (v := ?_) (a' := ?_) #[true, false, false, true, false, false, false, true, true, false, false] rfl rfl (take_ofW HT_.out HW_.out (by kernel_rfl)) (fun _ _ _ h => h) (Or.inl ⟨by rfl, ?_⟩) (Below.refl _ _) ?_ ?_
        rotate_left
        · intro Wx hWx
          have h0 := (HIn.out.box.below hWx).c0
          have h1 := (HIn.out.box.below hWx).c1
          have h2 := (HIn.out.box.below hWx).c2
          go_simp
          try with_reducible rfl
        rotate_left
        · simp only [Act.put, List.setIfInBounds_toArray, List.set_cons_zero, List.set_cons_succ, i64_w, i32_w]
          rfl
        refine one_ (i := 1) (N := (some 31)) #[true, true, false, true, false, false, false, true, true, false, false] rfl rfl (one_of HT_.out (by kernel_rfl)) (by decide) (fun K hK => ?_)
        refine goes_ Try.func37 (by kernel_rfl) rfl #[.slice none 0 0, .agg #[.int .i64 x.at_, .slice x.A x.ls.length x.c, .string x.line]] (by rfl) rfl rfl (by (try simp only [List.map_toArray, List.map_cons, List.map_nil]); first | done | rfl) ?_
        refine (HP1.out _ HIn.out.below).mono ?_
        rintro e w11_1 ⟨v1, rfl, hO1, hb_1⟩
        refine ⟨_, rfl, ?_⟩
        have HIn := Aside0.mk (HIn.out.step hb_1)
        have XA := Aside0.mk (XA.out.below hb_1)
        have HO1 := Aside0.mk hO1
        have hb_ : Below w5d.heap.size w5d w11_1 := hb_1
        have HB := Aside0.mk (below_step HB.out hb_)
        refine hK.out _ _ hb_ (fun hHeld => ?_)
        clear hK K
        refine wpAnyLast_str (S' := fun x_ => Below w11_1.heap.size w11_1 x_) (fun x_ hx_ => below_step hHeld hx_) (Below.refl _ _) ?_
        clear hHeld
        (try clear hb)
        clear hb_
        have HS := Aside0.mk (Below.refl w11_1.heap.size w11_1)
        refine norm_ (a' := ?_) ?_ ?_
        rotate_left
        · show Act.put _ (some 31) _ = _
          simp only [Act.put, List.setIfInBounds_toArray, List.set_cons_zero, List.set_cons_succ, i64_w, i32_w]
          rfl
        refine take_ (i := 2) (N := (some 32)) (v := ?_) (a' := ?_) #[true, true, true, true, false, false, false, true, true, false, false] rfl rfl (take_ofW HT_.out HW_.out (by kernel_rfl)) (fun _ _ _ h => h) (Or.inl ⟨by rfl, ?_⟩) (Below.refl _ _) ?_ ?_
        rotate_left
        · intro Wx hWx
          have hc := str_of (HO1.out.below hWx)
          rw [← Hp.out] at hc
          go_simp
          try with_reducible rfl
        rotate_left
        · simp only [Act.put, List.setIfInBounds_toArray, List.set_cons_zero, List.set_cons_succ, i64_w, i32_w]
          rfl
        refine one_ (i := 4) (N := (some 34)) #[true, true, true, true, true, false, false, true, true, false, false] rfl rfl (one_of HT_.out (by kernel_rfl)) (by decide) (fun K hK => ?_)
        refine goes_ Try.func37 (by kernel_rfl) rfl #[.slice none 0 0, .agg #[.int .i64 e.at_, .slice e.A e.ls.length e.c, .string e.line]] (by rfl) rfl rfl (by (try simp only [List.map_toArray, List.map_cons, List.map_nil]); first | done | rfl) ?_
        refine (HP2.out _ HIn.out.below).mono ?_
        rintro e w11_4 ⟨v4, rfl, hO4, hb_1⟩
        refine ⟨_, rfl, ?_⟩
        have HIn := Aside0.mk (HIn.out.step hb_1)
        have XA := Aside0.mk (XA.out.below hb_1)
        have HO4 := Aside0.mk hO4
        have hb_ : Below w11_1.heap.size w11_1 w11_4 := hb_1
        have HB := Aside0.mk (below_step HB.out hb_)
        refine hK.out _ _ hb_ (fun hHeld => ?_)
        clear hK K
        refine wpAnyLast_str (S' := fun x_ => Below w11_4.heap.size w11_4 x_) (fun x_ hx_ => below_step hHeld hx_) (Below.refl _ _) ?_
        clear hHeld
        (try clear hb)
        clear hb_
        have HS := Aside0.mk (Below.refl w11_4.heap.size w11_4)
        refine norm_ (a' := ?_) ?_ ?_
        rotate_left
        · show Act.put _ (some 34) _ = _
          simp only [Act.put, List.setIfInBounds_toArray, List.set_cons_zero, List.set_cons_succ, i64_w, i32_w]
          rfl
        refine take_ (i := 5) (N := (some 35)) (v := ?_) (a' := ?_) #[true, true, true, true, true, true, false, true, true, false, false] rfl rfl (take_ofW HT_.out HW_.out (by kernel_rfl)) (fun _ _ _ h => h) (Or.inl ⟨by rfl, ?_⟩) (Below.refl _ _) ?_ ?_
        rotate_left
        · intro Wx hWx
          have hc := str_of (HO4.out.below hWx)
          rw [← Hq.out] at hc
          go_simp
          try with_reducible rfl
        rotate_left
        · simp only [Act.put, List.setIfInBounds_toArray, List.set_cons_zero, List.set_cons_succ, i64_w, i32_w]
          rfl
        refine pure_ (i := 6) (N := (some 36)) (v := ?_) (a' := ?_) #[true, true, true, true, true, true, true, true, true, false, false] rfl rfl (any_of HT_.out (by kernel_rfl)) (fun _ _ _ h => h) (Or.inl ⟨by rfl, ?_⟩) ?_ ?_
        rotate_left
        · intro w_
          go_simp
          try with_reducible rfl
        rotate_left
        · simp only [Act.put, List.setIfInBounds_toArray, List.set_cons_zero, List.set_cons_succ, i64_w, i32_w]
          rfl
        refine one_ (i := 9) (N := (some 39)) #[true, true, true, true, true, true, true, true, true, true, false] rfl rfl (one_of HT_.out (by kernel_rfl)) (by decide) (fun K hK => ?_)
        refine goes_ Try.func42 (by kernel_rfl) rfl #[.agg #[.int .i64 x.at_, .slice x.A x.ls.length x.c, .string x.line], .agg #[.int .i64 e.at_, .slice e.A e.ls.length e.c, .string e.line]] (by rfl) rfl rfl (by (try simp only [List.map_toArray, List.map_cons, List.map_nil]); first | done | rfl) ?_
        refine (HSm.out _ HIn.out.below).mono ?_
        rintro e w11_9 ⟨rfl, hb_1⟩
        refine ⟨_, rfl, ?_⟩
        have HIn := Aside0.mk (HIn.out.step hb_1)
        have XA := Aside0.mk (XA.out.below hb_1)
        have hb_ : Below w11_4.heap.size w11_4 w11_9 := hb_1
        have HB := Aside0.mk (below_step HB.out hb_)
        refine hK.out _ _ hb_ (fun hHeld => ?_)
        clear hK K
        refine wpAnyLast_str (S' := fun x_ => Below w11_9.heap.size w11_9 x_) (fun x_ hx_ => below_step hHeld hx_) (Below.refl _ _) ?_
        clear hHeld
        (try clear hb)
        clear hb_
        have HS := Aside0.mk (Below.refl w11_9.heap.size w11_9)
        refine norm_ (a' := ?_) ?_ ?_
        rotate_left
        · show Act.put _ (some 39) _ = _
          simp only [Act.put, List.setIfInBounds_toArray, List.set_cons_zero, List.set_cons_succ, i64_w, i32_w]
          rfl
        refine pure_ (i := 10) (N := (some 40)) (v := ?_) (a' := ?_) #[true, true, true, true, true, true, true, true, true, true, true] rfl rfl (any_of HT_.out (by kernel_rfl)) (fun _ _ _ h => h) (Or.inl ⟨by rfl, ?_⟩) ?_ ?_
        rotate_left
        · intro w_
          go_simp
          try with_reducible rfl
        rotate_left
        · simp only [Act.put, List.setIfInBounds_toArray, List.set_cons_zero, List.set_cons_succ, i64_w, i32_w]
          rfl
        refine done_ (done_of HT_.out (by kernel_rfl)) ?_
        clear HP1 HSm HO1 HO4 HEq Hp Hq HB
        have a0 : w11_9.cell? _ = _ := XA.out.c0
        have a1 : w11_9.cell? _ = _ := XA.out.c1
        have a2 : w11_9.cell? _ = _ := XA.out.c2
        go_wp2_with fail
        clear a0 a1 a2
        ((refine (HPu.out _ HIn.out).mono ?_); rintro er w13 ⟨v', rfl, hI⟩)
        have HIn := Aside0.mk hI
        clear hI HPu
        go_wp2_with fail
        go_roundw
        case rel => exact ⟨i + 1, v', by have := Hlt.out; omega, rfl, by rw [w64_in _ (by have := Hlt.out; have := HN.out; omega)]; rfl, HIn, HGd⟩
        case measure => have h1 := Hlt.out; have h2 := HN.out; rw [w64_in _ (by omega)]; simp [intOf]; omega
    · have hi2 : i = xs.length := by omega
      have HGa : Aside0 (∀ y ∈ xs, goodE y.key = true) := ⟨by have := HGd.out; rw [hi2, List.take_length] at this; exact this⟩
      have HOw := Aside0.mk HIn.out.own
      rw [hi2, List.take_length] at HOw
      have HB := Aside0.mk HIn.out.below
      have hcv := str_of HOw.out
      obtain ⟨p, hp⟩ : ∃ p, p = str (allB (xs.map Ent.key)) := ⟨_, rfl⟩
      rw [← hp] at hcv
      have HPs : Aside0 (p.size ≤ 4611686018427 ∧ p.data.toList = allB (xs.map Ent.key)) := ⟨by
        have h1 := allB_small (xs.map Ent.key) (fun k hk => by
          obtain ⟨y, hy, rfl⟩ := List.mem_map.1 hk
          exact HGa.out y hy)
        have h2 := HMany.out.1
        rw [List.length_map] at h1
        rw [hp, str_size, data_str]
        exact ⟨by omega, rfl⟩⟩
      have hi3 : decide (xs.length < xs.length) = false := by simp
      have Hi2 := Aside0.mk hi2
      clear hp hi hi2 HIn HOw HGd
      go_wp2_with fail
      ((with_reducible refine (from_any p wr HPs.out.1).mono ?_); rintro er w6 ⟨g, b, rfl, hR, hb6, hg, hbb, hbg⟩)
      have hlt6 := hR.lt
      have HR : Aside0 (RS w6 g b (some (allB (xs.map Ent.key)))) := ⟨by rw [← HPs.out.2]; exact hR⟩
      have Hg : Aside0 (w.heap.size ≤ g ∧ b < w6.heap.size) := ⟨Nat.le_trans HB.out.size hg, by omega⟩
      have HB := Aside0.mk (below_step HB.out hb6)
      clear hR hb6 hg hbb hbg hlt6 hcv hi3
      go_wp2
      go_loopw [50] (fun t50 wr => ∃ (i : Nat), i ≤ xs.length ∧ t50 = .int .i64 (i : Int) ∧ Aside0 (RS wr g b (some (allB ((xs.drop i).map Ent.key)))) ∧ Aside0 (Below w.heap.size w wr) ∧ Aside0 (b < wr.heap.size)) (fun t50 _ => xs.length - (intOf t50).toNat)
      case atStart => exact ⟨0, Nat.zero_le _, rfl, HR, HB, ⟨Hg.out.2⟩⟩
      case round =>
        clear HR HB
        obtain ⟨i, hi, rfl, HR, HB, HBb⟩ := hrel
        by_cases hlt : i < xs.length
        · obtain ⟨a, rfl⟩ := HE.out.some hlt
          have HX := Aside0.mk ((HE.out.at_ a rfl i hlt).below HB.out)
          have HX0 := Aside0.mk (HE.out.at_ a rfl i hlt).raw
          obtain ⟨x, hx⟩ : ∃ x, x = xs[i] := ⟨_, rfl⟩
          rw [← hx] at HX HX0
          have HMem : Aside0 (x ∈ xs) := ⟨by rw [hx]; exact List.getElem_mem hlt⟩
          have HDr : Aside0 (allB ((xs.drop i).map Ent.key) = entB x.key ++ allB ((xs.drop (i + 1)).map Ent.key)) := ⟨by rw [List.drop_eq_getElem_cons hlt, List.map_cons, allB_cons, hx]⟩
          rw [HDr.out] at HR
          obtain ⟨rd1, rd2, rd3⟩ := ok_read (allB ((xs.drop (i + 1)).map Ent.key)) (HGa.out x HMem.out)
          obtain ⟨W, hW⟩ : ∃ W, W = wr.alloc (.cells #[.int .i64 x.at_, .slice x.A x.ls.length x.c, .string x.line] 34) := ⟨_, rfl⟩
          obtain ⟨j, hj⟩ : ∃ j, j = wr.heap.size := ⟨_, rfl⟩
          have hb0 : Below wr.heap.size wr W := by rw [hW]; exact below_alloc (Below.refl _ _) _
          have hg0 : wr.grownBy W none := by rw [hW]; exact World.grownBy_alloc wr _ none
          have XA : Aside0 (BoxE W j x) := ⟨by rw [hW, hj]; exact Go.heap_alloc_new _ _⟩
          have HXi : Aside0 (x.In w) := ⟨HX0.out.in_ (Nat.le_trans (great_few (HMany.out.2 x HMem.out)).1 (by decide))⟩
          have hgj : g < wr.heap.size := HR.out.lt
          have HJg : Aside0 (g < j) := ⟨by rw [hj]; exact hgj⟩
          have HR := Aside0.mk (HR.out.kept hg0 (by simp) (by simp))
          have HB := Aside0.mk (below_step HB.out hb0)
          have HBb : Aside0 (b < W.heap.size) := ⟨Nat.lt_of_lt_of_le HBb.out hb0.size⟩
          have HGt := Aside0.mk (get_any (wC := w) g b _ W HR.out HBb.out HC.out HB.out Hg.out.1)
          rw [rd1, rd2, rd3] at HGt
          have k0 := HX.out.c0
          have k1 := HX.out.c1
          have k2 := HX.out.c2
          have HWd := Aside0.mk hW
          have HJd := Aside0.mk hj
          have Hlt := Aside0.mk hlt
          clear hx hW hj HX hb0 hg0 HR rd1 rd2 rd3 hgj
          go_wp2_with fail
          try rw [← HWd.out]
          try rw [← HJd.out]
          clear k0 k1 k2 HWd HJd
          ((refine (HGt.out).mono ?_); rintro er w7 ⟨y, rfl, hy, hyk, hr7, hg7⟩)
          have HB := Aside0.mk (HB.out.grown hg7 HB.out.size (fun k hk => by cases hk; exact Hg.out.1))
          have XA7 : Aside0 (BoxE w7 j x) := ⟨(hg7.block j XA.out.lt (by have := HJg.out; simp; omega)).trans XA.out⟩
          have HBb : Aside0 (b < w7.heap.size) := ⟨Nat.lt_of_lt_of_le HBb.out hg7.size⟩
          have HR := Aside0.mk hr7
          have HY := Aside0.mk hy
          have HYk := Aside0.mk hyk
          clear XA HGt
          obtain ⟨W2, hW2⟩ : ∃ V, V = w7.alloc (.cells #[.int .i64 y.at_, .slice y.A y.ls.length y.c, .string y.line] 34) := ⟨_, rfl⟩
          obtain ⟨j2, hj2⟩ : ∃ j, j = w7.heap.size := ⟨_, rfl⟩
          have hb0 : Below w7.heap.size w7 W2 := by rw [hW2]; exact below_alloc (Below.refl _ _) _
          have hg0 : w7.grownBy W2 none := by rw [hW2]; exact World.grownBy_alloc w7 _ none
          have HY := Aside0.mk (HY.out.below hb0)
          have HR := Aside0.mk (HR.out.kept hg0 (by simp) (by simp))
          have HB := Aside0.mk (below_step HB.out hb0)
          have HBb : Aside0 (b < W2.heap.size) := ⟨Nat.lt_of_lt_of_le HBb.out hb0.size⟩
          have HSm : Aside0 (Calls Try.prog 42 #[x.val, y.val] W2 fun e w' => e = .returned (.bool true) ∧ Below W2.heap.size W2 w') := ⟨by
            have := refSame_any x y W2 (HXi.out.below HB.out) HY.out
            rw [HYk.out, sameK_refl] at this
            exact this⟩
          unfold Ent.val at HSm
          have a0 : ∀ o, (w7.alloc o).cell? ⟨j, 0, none⟩ = _ := fun o => cell_below (below_alloc (Below.refl _ w7) o) XA7.out.c0
          have a1 : ∀ o, (w7.alloc o).cell? ⟨j, 1, none⟩ = _ := fun o => cell_below (below_alloc (Below.refl _ w7) o) XA7.out.c1
          have a2 : ∀ o, (w7.alloc o).cell? ⟨j, 2, none⟩ = _ := fun o => cell_below (below_alloc (Below.refl _ w7) o) XA7.out.c2
          have HWd := Aside0.mk hW2
          have HJd := Aside0.mk hj2
          clear hy hyk hr7 hg7 hW2 hj2 hb0 hg0
          unfold Ent.val
          go_wp2_with fail
          try rw [← HWd.out]
          try rw [← HJd.out]
          clear a0 a1 a2 HWd HJd
          ((refine (HSm.out).mono ?_); rintro er w8 ⟨rfl, hb8⟩)
          have hgb := grown_of_below hb8 none
          have HR := Aside0.mk (HR.out.kept hgb (by simp) (by simp))
          have HB := Aside0.mk (below_step HB.out hb8)
          have HBb : Aside0 (b < w8.heap.size) := ⟨Nat.lt_of_lt_of_le HBb.out hb8.size⟩
          clear hb8 hgb HSm
          go_wp2_with fail
          go_roundw
          case rel => exact ⟨i + 1, by have := Hlt.out; omega, by rw [w64_in _ (by have := Hlt.out; have := HN.out; omega)]; rfl, HR, HB, HBb⟩
          case measure => have h1 := Hlt.out; have h2 := HN.out; rw [w64_in _ (by omega)]; simp [intOf]; omega
        · have hi3 : i = xs.length := by omega
          have HEn : Aside0 (Calls Try.prog 43 #[.pointer (some ⟨g, 0, none⟩)] wr fun e w' => e = .returned (.bool true) ∧ wr = w') := ⟨by
            have h := HR.out
            rw [hi3, List.drop_length] at h
            exact rend g b _ wr h⟩
          have hi4 : decide (i < xs.length) = false := decide_eq_false hlt
          clear hi3 HR
          go_wp2_with fail
          ((refine (HEn.out).mono ?_); rintro er w9 ⟨rfl, rfl⟩)
          go_wp2
          go_ret
          exact ⟨rfl, HB.out⟩
end Go.Proofs.Ytfejjfbhlmjkeaa.C
end
