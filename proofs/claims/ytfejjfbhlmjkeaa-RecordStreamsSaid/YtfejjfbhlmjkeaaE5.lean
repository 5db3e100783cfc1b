/- RecordStreams: the walk of the law. -/
import Derived.Test.YtfejjfbhlmjkeaaE2b
import Derived.Test.YtfejjfbhlmjkeaaE4
import Derived.Test.YtfejjfbhlmjkeaaReg
import Derived.Shelf.AbstractIn
set_option linter.unusedVariables false
set_option linter.unusedSimpArgs false
namespace Go.Proofs.Ytfejjfbhlmjkeaa.C
open Go.RowKit Go.Sort Go.Proofs.YtfejjfbhlmjkeaaW.PrintWords Go.Proofs.YtfejjfbhlmjkeaaW.PrintLast Go.Proofs.YtfejjfbhlmjkeaaW.PrintMore Go.Proofs.Ytfejjfbhlmjkeaa.B Go.Proofs.Ytfejjfbhlmjkeaa.Reg Go.Proofs.Ytfejjfbhlmjkeaa.PRecordIs Go.Proofs.Ytfejjfbhlmjkeaa.CQ
theorem cell_class {w : World} {p : Addr} {v : Value} (h : w.cell? p = some v) (n : Nat) (os : Array Obj) : (grow (w.drewN n) os).cell? p = some v := cell_below (bd_class w n os) h
def eqL (x y : S47) : Bool := x.f0.toList == y.f0.toList && x.f1.toList == y.f1.toList
theorem eqL_iff (x y : S47) : eqL x y = true ↔ x = y := by
  unfold eqL
  rw [Bool.and_eq_true, beq_iff_eq, beq_iff_eq]
  constructor
  · rintro ⟨h1, h2⟩
    have a := toList_inj h1
    have b := toList_inj h2
    cases x; cases y; cases a; cases b; rfl
  · rintro rfl; exact ⟨rfl, rfl⟩
/-- Are so many labels of two rows the same? -/
def sameTo (xs ys : List S47) : Nat → Bool
  | 0 => (xs.length : Int) == (ys.length : Int)
  | i + 1 => sameTo xs ys i && (decide (i < ys.length) && eqL (xs.getD i z47) (ys.getD i z47))
theorem sameTo_iff (xs ys : List S47) : ∀ n, n ≤ xs.length → (sameTo xs ys n = true ↔ xs.length = ys.length ∧ ∀ i, i < n → xs.getD i z47 = ys.getD i z47)
  | 0, _ => by
    simp only [sameTo, beq_iff_eq]
    constructor
    · intro h; exact ⟨by omega, fun i hi => by omega⟩
    · intro h; omega
  | n + 1, hn => by
    have ih := sameTo_iff xs ys n (by omega)
    simp only [sameTo, Bool.and_eq_true, decide_eq_true_eq]
    rw [ih, eqL_iff]
    constructor
    · rintro ⟨⟨h1, h2⟩, h3, h4⟩
      refine ⟨h1, fun i hi => ?_⟩
      by_cases e : i = n
      · subst e; exact h4
      · exact h2 i (by omega)
    · rintro ⟨h1, h2⟩
      exact ⟨⟨h1, fun i hi => h2 i (by omega)⟩, by omega, h2 n (by omega)⟩
def sameL (xs ys : List S47) : Bool := sameTo xs ys xs.length
theorem sameL_iff (xs ys : List S47) : sameL xs ys = true ↔ xs = ys := by
  unfold sameL
  rw [sameTo_iff xs ys _ (Nat.le_refl _)]
  constructor
  · rintro ⟨h1, h2⟩
    refine List.ext_getElem h1 fun i hi hj => ?_
    have := h2 i hi
    rwa [getD47 hi, getD47 hj] at this
  · rintro rfl; exact ⟨rfl, fun _ _ => rfl⟩
theorem short_of {k : Key} (h : greatB k = false) : Short k.ls := ⟨by have := (great_few h).1; omega, fun x hx => by have := (great_few h).2.2 x hx; omega⟩
def T_magpielaw04_RecordStreams_9 : Bool × List (List Nat × List Nat) := (true, [([], []), ([0], [0]), ([1], [1]), ([1], [1]), ([3, 1], [1, 3]), ([4, 1], [1, 4]), ([2, 5, 1], [1, 2, 5]), ([1, 6], [1, 6]), ([7, 1], [7]), ([8], [8]), ([9, 8], [8, 9]), ([8], [8]), ([10, 11, 8], [8, 10, 11]), ([12, 8], [8, 12]), ([8], [8]), ([14, 8], [8, 14]), ([8], [8]), ([15, 16, 8], [8, 15, 16]), ([17, 8], [8, 17]), ([13, 18, 8], [8, 13, 18]), ([8, 19], [8, 19]), ([20, 8, 0, 1, 2, 3, 4, 5, 6, 7, 8, 9, 10, 11, 12, 13, 14, 15, 16, 17, 18, 19, 20], [0, 20])])
def B_magpielaw04_RecordStreams_9 : List Nat := [0, 1, 3, 3, 11, 27, 63, 127, 255, 511, 1023, 511, 4095, 8191, 511, 16895, 511, 115199, 246271, 524287, 1048575, 2097151]
theorem tab_magpielaw04_RecordStreams_9 : rtab .any (opsOf Try.f8 9) = T_magpielaw04_RecordStreams_9 := by kernel_rfl
theorem bits_magpielaw04_RecordStreams_9 : waitsOk T_magpielaw04_RecordStreams_9.2 B_magpielaw04_RecordStreams_9 = true := by kernel_rfl
def T_magpielaw04_RecordStreams_14 : Bool × List (List Nat × List Nat) := (true, [([], []), ([0], [0]), ([], []), ([2, 1], [2]), ([1, 3], [1, 3]), ([], []), ([4, 5], [4, 5]), ([6, 3], [6]), ([7], [7]), ([8, 7, 7], [7, 8]), ([7], [7]), ([10, 9, 7], [7, 10]), ([9, 11, 7], [7, 9, 11]), ([7, 12], [7, 12]), ([13, 11], [13]), ([14], [14]), ([14], [14]), ([15, 16, 14, 14], [14, 15, 16]), ([17, 14], [14, 17]), ([14], [14]), ([18, 19, 14], [14, 18, 19]), ([14, 20], [14, 20]), ([21, 17, 0, 1, 2, 3, 4, 5, 6, 7, 8, 9, 10, 11, 12, 13, 14, 15, 16, 17, 18, 19, 20, 21], [21])])
def B_magpielaw04_RecordStreams_14 : List Nat := [0, 1, 0, 7, 15, 0, 63, 127, 255, 511, 255, 2047, 4095, 8191, 16383, 32767, 32767, 131071, 262143, 32767, 1048575, 2097151, 4194303]
theorem tab_magpielaw04_RecordStreams_14 : rtab .any (opsOf Try.f8 14) = T_magpielaw04_RecordStreams_14 := by kernel_rfl
theorem bits_magpielaw04_RecordStreams_14 : waitsOk T_magpielaw04_RecordStreams_14.2 B_magpielaw04_RecordStreams_14 = true := by kernel_rfl
set_option maxRecDepth 20000 in
set_option maxHeartbeats 8000000 in
theorem recordStreams_all (a b : Ent) (w : World) (ra : a.Raw w) (rb : b.Raw w) (hC : Con w) :
    Calls Try.prog 8 #[a.val, b.val] w fun e w' => e = .returned (.bool true) ∧ Below w.heap.size w w' := by
  obtain ⟨W, hW⟩ : ∃ W, W = (w.alloc (.cells #[.int .i64 a.at_, .slice a.A a.ls.length a.c, .string a.line] 34)).alloc (.cells #[.int .i64 b.at_, .slice b.A b.ls.length b.c, .string b.line] 34) := ⟨_, rfl⟩
  obtain ⟨j, hj⟩ : ∃ j, j = w.heap.size := ⟨_, rfl⟩
  have HB : Aside0 (Below w.heap.size w W) := ⟨by rw [hW]; exact below_alloc (below_alloc (Below.refl _ w) _) _⟩
  have XA : Aside0 (BoxE W j a) := ⟨by rw [hW, hj]; exact box0 w _ _⟩
  have XB : Aside0 (BoxE W (j + 1) b) := ⟨by rw [hW, hj]; exact box1 w _ _⟩
  have RA := Aside0.mk (ra.below HB.out)
  have RB := Aside0.mk (rb.below HB.out)
  have HC := Aside0.mk (hC.below HB.out)
  have HW := Aside0.mk hW
  have HJ := Aside0.mk hj
  clear hW hj ra rb hC
  unfold Ent.val
  go_enter Try.func8, Try.ntmps8
  go_wp2_with fail
  try rw [← HW.out]
  try rw [← HJ.out]
  clear HW HJ
  ((refine (alive_any _ HC.out).mono ?_); rintro e w1 ⟨rfl, hb1⟩)
  have HB := Aside0.mk (below_step HB.out hb1)
  have XA := Aside0.mk (XA.out.below hb1)
  have XB := Aside0.mk (XB.out.below hb1)
  have RA := Aside0.mk (RA.out.below hb1)
  have RB := Aside0.mk (RB.out.below hb1)
  clear hb1 HC
  have a0 : w1.cell? _ = _ := XA.out.c0
  have a1 : w1.cell? _ = _ := XA.out.c1
  have a2 : w1.cell? _ = _ := XA.out.c2
  go_wp2_with fail
  clear a0 a1 a2
  obtain ⟨ga, hga⟩ : ∃ g, g = greatB a.key := ⟨_, rfl⟩
  have HGa : Aside0 (Calls Try.prog 20 #[a.val] w1 fun e w' => e = .returned (.bool ga) ∧ Below w1.heap.size w1 w') := ⟨by rw [hga]; exact great_any a w1 RA.out⟩
  replace hga := Aside0.mk hga
  unfold Ent.val at HGa
  ((refine HGa.out.mono ?_); rintro e w2 ⟨rfl, hb1⟩)
  have HB := Aside0.mk (below_step HB.out hb1)
  have XA := Aside0.mk (XA.out.below hb1)
  have XB := Aside0.mk (XB.out.below hb1)
  have RA := Aside0.mk (RA.out.below hb1)
  have RB := Aside0.mk (RB.out.below hb1)
  clear hb1 HGa
  cases ga with
  | true =>
    go_wp2
    go_ret
    exact ⟨rfl, HB.out⟩
  | false =>
    have b0 : w2.cell? _ = _ := XB.out.c0
    have b1 : w2.cell? _ = _ := XB.out.c1
    have b2 : w2.cell? _ = _ := XB.out.c2
    go_wp2_with fail
    clear b0 b1 b2
    obtain ⟨gb, hgb⟩ : ∃ g, g = greatB b.key := ⟨_, rfl⟩
    have HGb : Aside0 (Calls Try.prog 20 #[b.val] w2 fun e w' => e = .returned (.bool gb) ∧ Below w2.heap.size w2 w') := ⟨by rw [hgb]; exact great_any b w2 RB.out⟩
    replace hgb := Aside0.mk hgb
    unfold Ent.val at HGb
    ((refine HGb.out.mono ?_); rintro e w3 ⟨rfl, hb1⟩)
    have HB := Aside0.mk (below_step HB.out hb1)
    have XA := Aside0.mk (XA.out.below hb1)
    have XB := Aside0.mk (XB.out.below hb1)
    have RA := Aside0.mk (RA.out.below hb1)
    have RB := Aside0.mk (RB.out.below hb1)
    clear hb1 HGb
    cases gb with
    | true =>
      go_wp2
      go_ret
      exact ⟨rfl, HB.out⟩
    | false =>
      have IA := Aside0.mk (RA.out.in_ (Nat.le_trans (great_few hga.out.symm).1 (by decide)))
      have IB := Aside0.mk (RB.out.in_ (Nat.le_trans (great_few hgb.out.symm).1 (by decide)))
      have SA := Aside0.mk (short_of hga.out.symm)
      have SB := Aside0.mk (short_of hgb.out.symm)
      clear RA RB hga hgb
      have a1 : w3.cell? _ = _ := XA.out.c1
      have b1 : w3.cell? _ = _ := XB.out.c1
      have HLa : Aside0 (a.ls.length ≤ 1000) := ⟨SA.out.1⟩
      have HLb : Aside0 (b.ls.length ≤ 1000) := ⟨SB.out.1⟩
      go_wp2
      clear a1 b1
      have HBo := HB
      have XAo := XA
      have XBo := XB
      clear HB XA XB
      go_loopw [5, 26] (fun t5 t26 wr => ∃ (i : Nat), i ≤ a.ls.length ∧ t5 = .bool (sameTo a.ls b.ls i) ∧ t26 = .int .i64 (i : Int) ∧ Aside0 (Below w3.heap.size w3 wr)) (fun _ t26 _ => a.ls.length - (intOf t26).toNat)
      case atStart => exact ⟨0, Nat.zero_le _, rfl, rfl, ⟨Below.refl _ _⟩⟩
      case round =>
        obtain ⟨i, hi, rfl, rfl, HB⟩ := hrel
        have XA := Aside0.mk (XAo.out.below HB.out)
        have XB := Aside0.mk (XBo.out.below HB.out)
        by_cases hlt : i < a.ls.length
        · have d1 : decide (i < a.ls.length) = true := decide_eq_true hlt
          have HE : Aside0 (sameTo a.ls b.ls (i + 1) = (sameTo a.ls b.ls i && (decide (i < b.ls.length) && eqL (a.ls.getD i z47) (b.ls.getD i z47)))) := ⟨rfl⟩
          have KA := Aside0.mk (IA.out.below HB.out).lies
          have KB := Aside0.mk (IB.out.below HB.out).lies
          obtain ⟨sm, hsm⟩ : ∃ s, s = sameTo a.ls b.ls i := ⟨_, rfl⟩
          rw [← hsm] at HE ⊢
          clear hsm
          have Hlt := Aside0.mk hlt
          cases sm with
          | false =>
            go_wp2_with fail
            refine start_ (n := 22) (S := fun x_ => Below wr.heap.size wr x_) (ds := []) #[false, false, false, false, false, false, false, false, false, false, false, false, false, false, false, false, false, false, false, false, false, false] (by kernel_rfl) rfl rfl (pw_below_drewN (Below.refl _ _) 1) (fun hHeld => ?_)
            refine with_tabW tab_magpielaw04_RecordStreams_9 bits_magpielaw04_RecordStreams_9 (fun HT_ HW_ => ?_)
            have HB := Aside0.mk (pw_below_drewN HB.out 1)
            change Aside0 (Below _ _ (World.drew wr)) at HB
            change Below _ _ (World.drew wr) at hHeld
            have hSz : (World.drew wr).heap.size = wr.heap.size := rfl
            have XA := Aside0.mk (show BoxE (World.drew wr) j a from XA.out)
            have XB := Aside0.mk (show BoxE (World.drew wr) (j + 1) b from XB.out)
            refine wpAnyLast_str (S' := fun x_ => Below (World.drew wr).heap.size (World.drew wr) x_) (fun x_ hx_ => below_step hHeld hx_) (Below.refl _ _) ?_
            clear hHeld hSz
            generalize World.drew wr = wrd at *
            have HS := Aside0.mk (Below.refl wrd.heap.size wrd)
            refine pure_ (i := 0) (N := (some 29)) (v := ?_) (a' := ?_) #[true, false, false, false, false, false, false, false, false, false, false, false, false, false, false, false, false, false, false, false, false, false] rfl rfl (any_of HT_.out (by kernel_rfl)) (fun _ _ _ h => h) (Or.inl ⟨by rfl, ?_⟩) ?_ ?_
            rotate_left
            · intro w_
              go_simp
              try with_reducible rfl
            rotate_left
            · simp only [Act.put, List.setIfInBounds_toArray, List.set_cons_zero, List.set_cons_succ, i64_w, i32_w]
              rfl
            refine pure_ (i := 1) (N := (some 30)) (v := ?_) (a' := ?_) #[true, true, false, false, false, false, false, false, false, false, false, false, false, false, false, false, false, false, false, false, false, false] rfl rfl (any_of HT_.out (by kernel_rfl)) (fun _ _ _ h => h) (Or.inl ⟨by rfl, ?_⟩) ?_ ?_
            rotate_left
            · intro w_
              go_simp
              try with_reducible rfl
            rotate_left
            · simp only [Act.put, List.setIfInBounds_toArray, List.set_cons_zero, List.set_cons_succ, i64_w, i32_w]
              rfl
            refine pure_ (i := 2) (N := (some 31)) (v := undef) (a' := ?_) #[true, true, true, false, false, false, false, false, false, false, false, false, false, false, false, false, false, false, false, false, false, false] rfl rfl (any_of HT_.out (by kernel_rfl)) (fun _ _ _ h => h) (Or.inr ⟨by rfl, rfl⟩) ?_ ?_
            rotate_left
            · simp only [Act.put, List.setIfInBounds_toArray, List.set_cons_zero, List.set_cons_succ, i64_w, i32_w]
              rfl
            refine pure_ (i := 3) (N := (some 32)) (v := undef) (a' := ?_) #[true, true, true, true, false, false, false, false, false, false, false, false, false, false, false, false, false, false, false, false, false, false] rfl rfl (any_of HT_.out (by kernel_rfl)) (fun _ _ _ h => h) (Or.inr ⟨by rfl, rfl⟩) ?_ ?_
            rotate_left
            · simp only [Act.put, List.setIfInBounds_toArray, List.set_cons_zero, List.set_cons_succ, i64_w, i32_w]
              rfl
            refine pure_ (i := 4) (N := (some 33)) (v := undef) (a' := ?_) #[true, true, true, true, true, false, false, false, false, false, false, false, false, false, false, false, false, false, false, false, false, false] rfl rfl (any_of HT_.out (by kernel_rfl)) (fun _ _ _ h => h) (Or.inr ⟨by rfl, rfl⟩) ?_ ?_
            rotate_left
            · simp only [Act.put, List.setIfInBounds_toArray, List.set_cons_zero, List.set_cons_succ, i64_w, i32_w]
              rfl
            refine pure_ (i := 5) (N := (some 34)) (v := undef) (a' := ?_) #[true, true, true, true, true, true, false, false, false, false, false, false, false, false, false, false, false, false, false, false, false, false] rfl rfl (any_of HT_.out (by kernel_rfl)) (fun _ _ _ h => h) (Or.inr ⟨by rfl, rfl⟩) ?_ ?_
            rotate_left
            · simp only [Act.put, List.setIfInBounds_toArray, List.set_cons_zero, List.set_cons_succ, i64_w, i32_w]
              rfl
            refine pure_ (i := 6) (N := (some 35)) (v := undef) (a' := ?_) #[true, true, true, true, true, true, true, false, false, false, false, false, false, false, false, false, false, false, false, false, false, false] rfl rfl (any_of HT_.out (by kernel_rfl)) (fun _ _ _ h => h) (Or.inr ⟨by rfl, rfl⟩) ?_ ?_
            rotate_left
            · simp only [Act.put, List.setIfInBounds_toArray, List.set_cons_zero, List.set_cons_succ, i64_w, i32_w]
              rfl
            refine pure_ (i := 7) (N := (some 36)) (v := ?_) (a' := ?_) #[true, true, true, true, true, true, true, true, false, false, false, false, false, false, false, false, false, false, false, false, false, false] rfl rfl (any_of HT_.out (by kernel_rfl)) (fun _ _ _ h => h) (Or.inl ⟨by rfl, ?_⟩) ?_ ?_
            rotate_left
            · intro w_
              go_simp
              try with_reducible rfl
            rotate_left
            · simp only [Act.put, List.setIfInBounds_toArray, List.set_cons_zero, List.set_cons_succ, i64_w, i32_w]
              rfl
            refine pure_ (i := 8) (N := (some 37)) (v := ?_) (a' := ?_) #[true, true, true, true, true, true, true, true, true, false, false, false, false, false, false, false, false, false, false, false, false, false] rfl rfl (any_of HT_.out (by kernel_rfl)) (fun _ _ _ h => h) (Or.inl ⟨by rfl, ?_⟩) ?_ ?_
            rotate_left
            · intro w_
              go_simp
              try with_reducible rfl
            rotate_left
            · simp only [Act.put, List.setIfInBounds_toArray, List.set_cons_zero, List.set_cons_succ, i64_w, i32_w]
              rfl
            refine pure_ (i := 9) (N := (some 38)) (v := undef) (a' := ?_) #[true, true, true, true, true, true, true, true, true, true, false, false, false, false, false, false, false, false, false, false, false, false] rfl rfl (any_of HT_.out (by kernel_rfl)) (fun _ _ _ h => h) (Or.inr ⟨by rfl, rfl⟩) ?_ ?_
            rotate_left
            · simp only [Act.put, List.setIfInBounds_toArray, List.set_cons_zero, List.set_cons_succ, i64_w, i32_w]
              rfl
            refine pure_ (i := 10) (N := (some 39)) (v := undef) (a' := ?_) #[true, true, true, true, true, true, true, true, true, true, true, false, false, false, false, false, false, false, false, false, false, false] rfl rfl (any_of HT_.out (by kernel_rfl)) (fun _ _ _ h => h) (Or.inr ⟨by rfl, rfl⟩) ?_ ?_
            rotate_left
            · simp only [Act.put, List.setIfInBounds_toArray, List.set_cons_zero, List.set_cons_succ, i64_w, i32_w]
              rfl
            refine pure_ (i := 11) (N := (some 40)) (v := undef) (a' := ?_) #[true, true, true, true, true, true, true, true, true, true, true, true, false, false, false, false, false, false, false, false, false, false] rfl rfl (any_of HT_.out (by kernel_rfl)) (fun _ _ _ h => h) (Or.inr ⟨by rfl, rfl⟩) ?_ ?_
            rotate_left
            · simp only [Act.put, List.setIfInBounds_toArray, List.set_cons_zero, List.set_cons_succ, i64_w, i32_w]
              rfl
            refine pure_ (i := 12) (N := (some 41)) (v := undef) (a' := ?_) #[true, true, true, true, true, true, true, true, true, true, true, true, true, false, false, false, false, false, false, false, false, false] rfl rfl (any_of HT_.out (by kernel_rfl)) (fun _ _ _ h => h) (Or.inr ⟨by rfl, rfl⟩) ?_ ?_
            rotate_left
            · simp only [Act.put, List.setIfInBounds_toArray, List.set_cons_zero, List.set_cons_succ, i64_w, i32_w]
              rfl
            refine pure_ (i := 13) (N := (some 42)) (v := undef) (a' := ?_) #[true, true, true, true, true, true, true, true, true, true, true, true, true, true, false, false, false, false, false, false, false, false] rfl rfl (any_of HT_.out (by kernel_rfl)) (fun _ _ _ h => h) (Or.inr ⟨by rfl, rfl⟩) ?_ ?_
            rotate_left
            · simp only [Act.put, List.setIfInBounds_toArray, List.set_cons_zero, List.set_cons_succ, i64_w, i32_w]
              rfl
            refine pure_ (i := 14) (N := (some 43)) (v := undef) (a' := ?_) #[true, true, true, true, true, true, true, true, true, true, true, true, true, true, true, false, false, false, false, false, false, false] rfl rfl (any_of HT_.out (by kernel_rfl)) (fun _ _ _ h => h) (Or.inr ⟨by rfl, rfl⟩) ?_ ?_
            rotate_left
            · simp only [Act.put, List.setIfInBounds_toArray, List.set_cons_zero, List.set_cons_succ, i64_w, i32_w]
              rfl
            refine pure_ (i := 15) (N := (some 44)) (v := undef) (a' := ?_) #[true, true, true, true, true, true, true, true, true, true, true, true, true, true, true, true, false, false, false, false, false, false] rfl rfl (any_of HT_.out (by kernel_rfl)) (fun _ _ _ h => h) (Or.inr ⟨by rfl, rfl⟩) ?_ ?_
            rotate_left
            · simp only [Act.put, List.setIfInBounds_toArray, List.set_cons_zero, List.set_cons_succ, i64_w, i32_w]
              rfl
            refine pure_ (i := 16) (N := (some 45)) (v := undef) (a' := ?_) #[true, true, true, true, true, true, true, true, true, true, true, true, true, true, true, true, true, false, false, false, false, false] rfl rfl (any_of HT_.out (by kernel_rfl)) (fun _ _ _ h => h) (Or.inr ⟨by rfl, rfl⟩) ?_ ?_
            rotate_left
            · simp only [Act.put, List.setIfInBounds_toArray, List.set_cons_zero, List.set_cons_succ, i64_w, i32_w]
              rfl
            refine pure_ (i := 17) (N := (some 46)) (v := undef) (a' := ?_) #[true, true, true, true, true, true, true, true, true, true, true, true, true, true, true, true, true, true, false, false, false, false] rfl rfl (any_of HT_.out (by kernel_rfl)) (fun _ _ _ h => h) (Or.inr ⟨by rfl, rfl⟩) ?_ ?_
            rotate_left
            · simp only [Act.put, List.setIfInBounds_toArray, List.set_cons_zero, List.set_cons_succ, i64_w, i32_w]
              rfl
            refine pure_ (i := 18) (N := (some 47)) (v := undef) (a' := ?_) #[true, true, true, true, true, true, true, true, true, true, true, true, true, true, true, true, true, true, true, false, false, false] rfl rfl (any_of HT_.out (by kernel_rfl)) (fun _ _ _ h => h) (Or.inr ⟨by rfl, rfl⟩) ?_ ?_
            rotate_left
            · simp only [Act.put, List.setIfInBounds_toArray, List.set_cons_zero, List.set_cons_succ, i64_w, i32_w]
              rfl
            refine pure_ (i := 19) (N := (some 48)) (v := undef) (a' := ?_) #[true, true, true, true, true, true, true, true, true, true, true, true, true, true, true, true, true, true, true, true, false, false] rfl rfl (any_of HT_.out (by kernel_rfl)) (fun _ _ _ h => h) (Or.inr ⟨by rfl, rfl⟩) ?_ ?_
            rotate_left
            · simp only [Act.put, List.setIfInBounds_toArray, List.set_cons_zero, List.set_cons_succ, i64_w, i32_w]
              rfl
            refine pure_ (i := 20) (N := (some 49)) (v := ?_) (a' := ?_) #[true, true, true, true, true, true, true, true, true, true, true, true, true, true, true, true, true, true, true, true, true, false] rfl rfl (any_of HT_.out (by kernel_rfl)) (fun _ _ _ h => h) (Or.inl ⟨by rfl, ?_⟩) ?_ ?_
            rotate_left
            · intro w_
              go_simp
              try with_reducible rfl
            rotate_left
            · simp only [Act.put, List.setIfInBounds_toArray, List.set_cons_zero, List.set_cons_succ, i64_w, i32_w]
              rfl
            refine pure_ (i := 21) (N := (some 5)) (v := ?_) (a' := ?_) #[true, true, true, true, true, true, true, true, true, true, true, true, true, true, true, true, true, true, true, true, true, true] rfl rfl (any_of HT_.out (by kernel_rfl)) (fun _ _ _ h => h) (Or.inl ⟨by rfl, ?_⟩) ?_ ?_
            rotate_left
            · intro w_
              go_simp
              try with_reducible rfl
            rotate_left
            · simp only [Act.put, List.setIfInBounds_toArray, List.set_cons_zero, List.set_cons_succ, i64_w, i32_w]
              rfl
            refine done_ (done_of HT_.out (by kernel_rfl)) ?_
            go_wp2_with fail
            go_roundw
            case rel => exact ⟨i + 1, by have := Hlt.out; omega, by rw [HE.out]; rfl, by rw [w64_in _ (by have := Hlt.out; have := HLa.out; omega)]; rfl, HB⟩
            case measure => have h1 := Hlt.out; have h2 := HLa.out; rw [w64_in _ (by omega)]; simp [intOf]; omega
          | true =>
            by_cases hlb : i < b.ls.length
            · have d2 : decide (i < b.ls.length) = true := decide_eq_true hlb
              obtain ⟨ad, hA, k0, k1⟩ := at_T47 KA.out (i : Int) (by omega) (by omega)
              obtain ⟨bd, hB, m0, m1⟩ := at_T47 KB.out (i : Int) (by omega) (by omega)
              rw [Int.toNat_natCast] at k0 k1 m0 m1
              rw [at47 hlt] at k0 k1
              rw [at47 hlb] at m0 m1
              rw [getD47 hlt, getD47 hlb] at HE
              obtain ⟨x, hx⟩ : ∃ x, x = a.ls[i] := ⟨_, rfl⟩
              obtain ⟨y, hy⟩ : ∃ y, y = b.ls[i] := ⟨_, rfl⟩
              rw [← hx] at k0 k1 HE
              rw [← hy] at m0 m1 HE
              clear hx hy
              obtain ⟨x0, x1⟩ := x
              obtain ⟨y0, y1⟩ := y
              dsimp only at k0 k1 m0 m1
              have K0 := Aside0.mk k0
              have K1 := Aside0.mk k1
              have M0 := Aside0.mk m0
              have M1 := Aside0.mk m1
              obtain ⟨eb, heb⟩ : ∃ e, e = eqL ⟨x0, x1⟩ ⟨y0, y1⟩ := ⟨_, rfl⟩
              rw [← heb, decide_eq_true hlb] at HE
              have heq : ∀ w, (binOp .eql 47 (.agg #[.string x0, .string x1]) (.agg #[.string y0, .string y1])).run Try.prog w = .ok (.bool eb) w := fun w => by rw [heb]; exact same_labels x0 x1 y0 y1 w
              have hgd : ∀ (op : BinOp) (p q : Operand) (w : World), (eqGuard op 47 p q (.agg #[.string x0, .string x1]) (.agg #[.string y0, .string y1])).run Try.prog w = .ok () w := fun op p q w => guard47 op p q _ _ w
              have jb : (i : Int) < (b.ls.length : Int) := by omega
              have ja : (i : Int) < (a.ls.length : Int) := by omega
              clear heb k0 k1 m0 m1 KA KB
              go_wp2_with fail
              refine start_ (n := 22) (S := fun x_ => Below wr.heap.size wr x_) (ds := []) #[false, false, false, false, false, false, false, false, false, false, false, false, false, false, false, false, false, false, false, false, false, false] (by kernel_rfl) rfl rfl (pw_below_drewN (Below.refl _ _) 1) (fun hHeld => ?_)
              refine with_tabW tab_magpielaw04_RecordStreams_9 bits_magpielaw04_RecordStreams_9 (fun HT_ HW_ => ?_)
              have HB := Aside0.mk (pw_below_drewN HB.out 1)
              change Aside0 (Below _ _ (World.drew wr)) at HB
              change Below _ _ (World.drew wr) at hHeld
              have hSz : (World.drew wr).heap.size = wr.heap.size := rfl
              have XA := Aside0.mk (show BoxE (World.drew wr) j a from XA.out)
              have XB := Aside0.mk (show BoxE (World.drew wr) (j + 1) b from XB.out)
              have K0 := Aside0.mk (show (World.drew wr).cell? _ = _ from K0.out)
              have K1 := Aside0.mk (show (World.drew wr).cell? _ = _ from K1.out)
              have M0 := Aside0.mk (show (World.drew wr).cell? _ = _ from M0.out)
              have M1 := Aside0.mk (show (World.drew wr).cell? _ = _ from M1.out)
              refine wpAnyLast_str (S' := fun x_ => Below (World.drew wr).heap.size (World.drew wr) x_) (fun x_ hx_ => below_step hHeld hx_) (Below.refl _ _) ?_
              clear hHeld hSz
              generalize World.drew wr = wrd at *
              have HS := Aside0.mk (Below.refl wrd.heap.size wrd)
              refine pure_ (i := 0) (N := (some 29)) (v := ?_) (a' := ?_) #[true, false, false, false, false, false, false, false, false, false, false, false, false, false, false, false, false, false, false, false, false, false] rfl rfl (any_of HT_.out (by kernel_rfl)) (fun _ _ _ h => h) (Or.inl ⟨by rfl, ?_⟩) ?_ ?_
              rotate_left
              · intro w_
                go_simp
                try with_reducible rfl
              rotate_left
              · simp only [Act.put, List.setIfInBounds_toArray, List.set_cons_zero, List.set_cons_succ, i64_w, i32_w]
                rfl
              refine pure_ (i := 1) (N := (some 30)) (v := ?_) (a' := ?_) #[true, true, false, false, false, false, false, false, false, false, false, false, false, false, false, false, false, false, false, false, false, false] rfl rfl (any_of HT_.out (by kernel_rfl)) (fun _ _ _ h => h) (Or.inl ⟨by rfl, ?_⟩) ?_ ?_
              rotate_left
              · intro w_
                go_simp
                try with_reducible rfl
              rotate_left
              · simp only [Act.put, List.setIfInBounds_toArray, List.set_cons_zero, List.set_cons_succ, i64_w, i32_w]
                rfl
              refine pure_ (i := 2) (N := (some 31)) (v := ?_) (a' := ?_) #[true, true, true, false, false, false, false, false, false, false, false, false, false, false, false, false, false, false, false, false, false, false] rfl rfl (any_of HT_.out (by kernel_rfl)) (fun _ _ _ h => h) (Or.inl ⟨by rfl, ?_⟩) ?_ ?_
              rotate_left
              · intro w_
                go_simp
                try with_reducible rfl
              rotate_left
              · simp only [Act.put, List.setIfInBounds_toArray, List.set_cons_zero, List.set_cons_succ, i64_w, i32_w]
                rfl
              refine pure_ (i := 3) (N := (some 32)) (v := ?_) (a' := ?_) #[true, true, true, true, false, false, false, false, false, false, false, false, false, false, false, false, false, false, false, false, false, false] rfl rfl (any_of HT_.out (by kernel_rfl)) (fun _ _ _ h => h) (Or.inl ⟨by rfl, ?_⟩) ?_ ?_
              rotate_left
              · intro w_
                go_simp
                try with_reducible rfl
              rotate_left
              · simp only [Act.put, List.setIfInBounds_toArray, List.set_cons_zero, List.set_cons_succ, i64_w, i32_w]
                rfl
              refine take_ (i := 4) (N := (some 33)) (v := ?_) (a' := ?_) #[true, true, true, true, true, false, false, false, false, false, false, false, false, false, false, false, false, false, false, false, false, false] rfl rfl (take_ofW HT_.out HW_.out (by kernel_rfl)) (fun _ _ _ h => h) (Or.inl ⟨by rfl, ?_⟩) (Below.refl _ _) ?_ ?_
              rotate_left
              · intro Wx hWx
                have hc := (XB.out.below hWx).c1
                go_simp
                try with_reducible rfl
              rotate_left
              · simp only [Act.put, List.setIfInBounds_toArray, List.set_cons_zero, List.set_cons_succ, i64_w, i32_w]
                rfl
              refine pure_ (i := 5) (N := (some 34)) (v := ?_) (a' := ?_) #[true, true, true, true, true, true, false, false, false, false, false, false, false, false, false, false, false, false, false, false, false, false] rfl rfl (any_of HT_.out (by kernel_rfl)) (fun _ _ _ h => h) (Or.inl ⟨by rfl, ?_⟩) ?_ ?_
              rotate_left
              · intro w_
                go_simp
                try with_reducible rfl
              rotate_left
              · simp only [Act.put, List.setIfInBounds_toArray, List.set_cons_zero, List.set_cons_succ, i64_w, i32_w]
                rfl
              refine pure_ (i := 6) (N := (some 35)) (v := ?_) (a' := ?_) #[true, true, true, true, true, true, true, false, false, false, false, false, false, false, false, false, false, false, false, false, false, false] rfl rfl (any_of HT_.out (by kernel_rfl)) (fun _ _ _ h => h) (Or.inl ⟨by rfl, ?_⟩) ?_ ?_
              rotate_left
              · intro w_
                go_simp
                try with_reducible rfl
              rotate_left
              · simp only [Act.put, List.setIfInBounds_toArray, List.set_cons_zero, List.set_cons_succ, i64_w, i32_w]
                rfl
              refine pure_ (i := 7) (N := (some 36)) (v := ?_) (a' := ?_) #[true, true, true, true, true, true, true, true, false, false, false, false, false, false, false, false, false, false, false, false, false, false] rfl rfl (any_of HT_.out (by kernel_rfl)) (fun _ _ _ h => h) (Or.inl ⟨by rfl, ?_⟩) ?_ ?_
              rotate_left
              · intro w_
                go_simp
                try with_reducible rfl
              rotate_left
              · simp only [Act.put, List.setIfInBounds_toArray, List.set_cons_zero, List.set_cons_succ, i64_w, i32_w]
                rfl
              refine pure_ (i := 8) (N := (some 37)) (v := ?_) (a' := ?_) #[true, true, true, true, true, true, true, true, true, false, false, false, false, false, false, false, false, false, false, false, false, false] rfl rfl (any_of HT_.out (by kernel_rfl)) (fun _ _ _ h => h) (Or.inl ⟨by rfl, ?_⟩) ?_ ?_
              rotate_left
              · intro w_
                go_simp
                try with_reducible rfl
              rotate_left
              · simp only [Act.put, List.setIfInBounds_toArray, List.set_cons_zero, List.set_cons_succ, i64_w, i32_w]
                rfl
              refine pure_ (i := 9) (N := (some 38)) (v := ?_) (a' := ?_) #[true, true, true, true, true, true, true, true, true, true, false, false, false, false, false, false, false, false, false, false, false, false] rfl rfl (any_of HT_.out (by kernel_rfl)) (fun _ _ _ h => h) (Or.inl ⟨by rfl, ?_⟩) ?_ ?_
              rotate_left
              · intro w_
                go_simp
                try with_reducible rfl
              rotate_left
              · simp only [Act.put, List.setIfInBounds_toArray, List.set_cons_zero, List.set_cons_succ, i64_w, i32_w]
                rfl
              refine pure_ (i := 11) (N := (some 40)) (v := ?_) (a' := ?_) #[true, true, true, true, true, true, true, true, true, true, false, true, false, false, false, false, false, false, false, false, false, false] rfl rfl (any_of HT_.out (by kernel_rfl)) (fun _ _ _ h => h) (Or.inl ⟨by rfl, ?_⟩) ?_ ?_
              rotate_left
              · intro w_
                go_simp
                try with_reducible rfl
              rotate_left
              · simp only [Act.put, List.setIfInBounds_toArray, List.set_cons_zero, List.set_cons_succ, i64_w, i32_w]
                rfl
              refine pure_ (i := 14) (N := (some 43)) (v := ?_) (a' := ?_) #[true, true, true, true, true, true, true, true, true, true, false, true, false, false, true, false, false, false, false, false, false, false] rfl rfl (any_of HT_.out (by kernel_rfl)) (fun _ _ _ h => h) (Or.inl ⟨by rfl, ?_⟩) ?_ ?_
              rotate_left
              · intro w_
                go_simp
                try with_reducible rfl
              rotate_left
              · simp only [Act.put, List.setIfInBounds_toArray, List.set_cons_zero, List.set_cons_succ, i64_w, i32_w]
                rfl
              refine pure_ (i := 16) (N := (some 45)) (v := ?_) (a' := ?_) #[true, true, true, true, true, true, true, true, true, true, false, true, false, false, true, false, true, false, false, false, false, false] rfl rfl (any_of HT_.out (by kernel_rfl)) (fun _ _ _ h => h) (Or.inl ⟨by rfl, ?_⟩) ?_ ?_
              rotate_left
              · intro w_
                go_simp
                try with_reducible rfl
              rotate_left
              · simp only [Act.put, List.setIfInBounds_toArray, List.set_cons_zero, List.set_cons_succ, i64_w, i32_w]
                rfl
              refine take_ (i := 10) (N := (some 39)) (v := ?_) (a' := ?_) #[true, true, true, true, true, true, true, true, true, true, true, true, false, false, true, false, true, false, false, false, false, false] rfl rfl (take_ofW HT_.out HW_.out (by kernel_rfl)) (fun _ _ _ h => h) (Or.inl ⟨by rfl, ?_⟩) (Below.refl _ _) ?_ ?_
              rotate_left
              · intro Wx hWx
                have hc := (show Wx.cell? _ = some (.slice (some ad) a.ls.length a.c) from hA ▸ (XA.out.below hWx).c1)
                go_simp
                try with_reducible rfl
              rotate_left
              · simp only [Act.put, List.setIfInBounds_toArray, List.set_cons_zero, List.set_cons_succ, i64_w, i32_w]
                rfl
              refine pure_ (i := 12) (N := (some 41)) (v := ?_) (a' := ?_) #[true, true, true, true, true, true, true, true, true, true, true, true, true, false, true, false, true, false, false, false, false, false] rfl rfl (any_of HT_.out (by kernel_rfl)) (fun _ _ _ h => h) (Or.inl ⟨by rfl, ?_⟩) ?_ ?_
              rotate_left
              · intro w_
                go_simp
                try with_reducible rfl
              rotate_left
              · simp only [Act.put, List.setIfInBounds_toArray, List.set_cons_zero, List.set_cons_succ, i64_w, i32_w]
                rfl
              refine take_ (i := 13) (N := (some 42)) (v := ?_) (a' := ?_) #[true, true, true, true, true, true, true, true, true, true, true, true, true, true, true, false, true, false, false, false, false, false] rfl rfl (take_ofW HT_.out HW_.out (by kernel_rfl)) (fun _ _ _ h => h) (Or.inl ⟨by rfl, ?_⟩) (Below.refl _ _) ?_ ?_
              rotate_left
              · intro Wx hWx
                have hc := cell_below hWx K0.out
                have hc2 := cell_below hWx K1.out
                go_simp
                try with_reducible rfl
              rotate_left
              · simp only [Act.put, List.setIfInBounds_toArray, List.set_cons_zero, List.set_cons_succ, i64_w, i32_w]
                rfl
              refine take_ (i := 15) (N := (some 44)) (v := ?_) (a' := ?_) #[true, true, true, true, true, true, true, true, true, true, true, true, true, true, true, true, true, false, false, false, false, false] rfl rfl (take_ofW HT_.out HW_.out (by kernel_rfl)) (fun _ _ _ h => h) (Or.inl ⟨by rfl, ?_⟩) (Below.refl _ _) ?_ ?_
              rotate_left
              · intro Wx hWx
                have hc := (show Wx.cell? _ = some (.slice (some bd) b.ls.length b.c) from hB ▸ (XB.out.below hWx).c1)
                go_simp
                try with_reducible rfl
              rotate_left
              · simp only [Act.put, List.setIfInBounds_toArray, List.set_cons_zero, List.set_cons_succ, i64_w, i32_w]
                rfl
              refine pure_ (i := 17) (N := (some 46)) (v := ?_) (a' := ?_) #[true, true, true, true, true, true, true, true, true, true, true, true, true, true, true, true, true, true, false, false, false, false] rfl rfl (any_of HT_.out (by kernel_rfl)) (fun _ _ _ h => h) (Or.inl ⟨by rfl, ?_⟩) ?_ ?_
              rotate_left
              · intro w_
                go_simp
                try with_reducible rfl
              rotate_left
              · simp only [Act.put, List.setIfInBounds_toArray, List.set_cons_zero, List.set_cons_succ, i64_w, i32_w]
                rfl
              refine take_ (i := 18) (N := (some 47)) (v := ?_) (a' := ?_) #[true, true, true, true, true, true, true, true, true, true, true, true, true, true, true, true, true, true, true, false, false, false] rfl rfl (take_ofW HT_.out HW_.out (by kernel_rfl)) (fun _ _ _ h => h) (Or.inl ⟨by rfl, ?_⟩) (Below.refl _ _) ?_ ?_
              rotate_left
              · intro Wx hWx
                have hc := cell_below hWx M0.out
                have hc2 := cell_below hWx M1.out
                go_simp
                try with_reducible rfl
              rotate_left
              · simp only [Act.put, List.setIfInBounds_toArray, List.set_cons_zero, List.set_cons_succ, i64_w, i32_w]
                rfl
              refine pure_ (i := 19) (N := (some 48)) (v := ?_) (a' := ?_) #[true, true, true, true, true, true, true, true, true, true, true, true, true, true, true, true, true, true, true, true, false, false] rfl rfl (any_of HT_.out (by kernel_rfl)) (fun _ _ _ h => h) (Or.inl ⟨by rfl, ?_⟩) ?_ ?_
              rotate_left
              · intro w_
                go_simp
                try with_reducible rfl
              rotate_left
              · simp only [Act.put, List.setIfInBounds_toArray, List.set_cons_zero, List.set_cons_succ, i64_w, i32_w]
                rfl
              refine pure_ (i := 20) (N := (some 49)) (v := ?_) (a' := ?_) #[true, true, true, true, true, true, true, true, true, true, true, true, true, true, true, true, true, true, true, true, true, false] rfl rfl (any_of HT_.out (by kernel_rfl)) (fun _ _ _ h => h) (Or.inl ⟨by rfl, ?_⟩) ?_ ?_
              rotate_left
              · intro w_
                go_simp
                try with_reducible rfl
              rotate_left
              · simp only [Act.put, List.setIfInBounds_toArray, List.set_cons_zero, List.set_cons_succ, i64_w, i32_w]
                rfl
              refine pure_ (i := 21) (N := (some 5)) (v := ?_) (a' := ?_) #[true, true, true, true, true, true, true, true, true, true, true, true, true, true, true, true, true, true, true, true, true, true] rfl rfl (any_of HT_.out (by kernel_rfl)) (fun _ _ _ h => h) (Or.inl ⟨by rfl, ?_⟩) ?_ ?_
              rotate_left
              · intro w_
                go_simp
                try with_reducible rfl
              rotate_left
              · simp only [Act.put, List.setIfInBounds_toArray, List.set_cons_zero, List.set_cons_succ, i64_w, i32_w]
                rfl
              refine done_ (done_of HT_.out (by kernel_rfl)) ?_
              go_wp2_with fail
              go_roundw
              case rel => exact ⟨i + 1, by have := Hlt.out; omega, by rw [HE.out]; simp, by rw [w64_in _ (by have := Hlt.out; have := HLa.out; omega)]; rfl, HB⟩
              case measure => have h1 := Hlt.out; have h2 := HLa.out; rw [w64_in _ (by omega)]; simp [intOf]; omega
            · have d2 : decide (i < b.ls.length) = false := decide_eq_false hlb
              rw [decide_eq_false hlb] at HE
              clear KA KB
              go_wp2_with fail
              refine start_ (n := 22) (S := fun x_ => Below wr.heap.size wr x_) (ds := []) #[false, false, false, false, false, false, false, false, false, false, false, false, false, false, false, false, false, false, false, false, false, false] (by kernel_rfl) rfl rfl (pw_below_drewN (Below.refl _ _) 1) (fun hHeld => ?_)
              refine with_tabW tab_magpielaw04_RecordStreams_9 bits_magpielaw04_RecordStreams_9 (fun HT_ HW_ => ?_)
              have HB := Aside0.mk (pw_below_drewN HB.out 1)
              change Aside0 (Below _ _ (World.drew wr)) at HB
              change Below _ _ (World.drew wr) at hHeld
              have hSz : (World.drew wr).heap.size = wr.heap.size := rfl
              have XA := Aside0.mk (show BoxE (World.drew wr) j a from XA.out)
              have XB := Aside0.mk (show BoxE (World.drew wr) (j + 1) b from XB.out)
              refine wpAnyLast_str (S' := fun x_ => Below (World.drew wr).heap.size (World.drew wr) x_) (fun x_ hx_ => below_step hHeld hx_) (Below.refl _ _) ?_
              clear hHeld hSz
              generalize World.drew wr = wrd at *
              have HS := Aside0.mk (Below.refl wrd.heap.size wrd)
              refine pure_ (i := 0) (N := (some 29)) (v := ?_) (a' := ?_) #[true, false, false, false, false, false, false, false, false, false, false, false, false, false, false, false, false, false, false, false, false, false] rfl rfl (any_of HT_.out (by kernel_rfl)) (fun _ _ _ h => h) (Or.inl ⟨by rfl, ?_⟩) ?_ ?_
              rotate_left
              · intro w_
                go_simp
                try with_reducible rfl
              rotate_left
              · simp only [Act.put, List.setIfInBounds_toArray, List.set_cons_zero, List.set_cons_succ, i64_w, i32_w]
                rfl
              refine pure_ (i := 1) (N := (some 30)) (v := ?_) (a' := ?_) #[true, true, false, false, false, false, false, false, false, false, false, false, false, false, false, false, false, false, false, false, false, false] rfl rfl (any_of HT_.out (by kernel_rfl)) (fun _ _ _ h => h) (Or.inl ⟨by rfl, ?_⟩) ?_ ?_
              rotate_left
              · intro w_
                go_simp
                try with_reducible rfl
              rotate_left
              · simp only [Act.put, List.setIfInBounds_toArray, List.set_cons_zero, List.set_cons_succ, i64_w, i32_w]
                rfl
              refine pure_ (i := 2) (N := (some 31)) (v := ?_) (a' := ?_) #[true, true, true, false, false, false, false, false, false, false, false, false, false, false, false, false, false, false, false, false, false, false] rfl rfl (any_of HT_.out (by kernel_rfl)) (fun _ _ _ h => h) (Or.inl ⟨by rfl, ?_⟩) ?_ ?_
              rotate_left
              · intro w_
                go_simp
                try with_reducible rfl
              rotate_left
              · simp only [Act.put, List.setIfInBounds_toArray, List.set_cons_zero, List.set_cons_succ, i64_w, i32_w]
                rfl
              refine pure_ (i := 3) (N := (some 32)) (v := ?_) (a' := ?_) #[true, true, true, true, false, false, false, false, false, false, false, false, false, false, false, false, false, false, false, false, false, false] rfl rfl (any_of HT_.out (by kernel_rfl)) (fun _ _ _ h => h) (Or.inl ⟨by rfl, ?_⟩) ?_ ?_
              rotate_left
              · intro w_
                go_simp
                try with_reducible rfl
              rotate_left
              · simp only [Act.put, List.setIfInBounds_toArray, List.set_cons_zero, List.set_cons_succ, i64_w, i32_w]
                rfl
              refine take_ (i := 4) (N := (some 33)) (v := ?_) (a' := ?_) #[true, true, true, true, true, false, false, false, false, false, false, false, false, false, false, false, false, false, false, false, false, false] rfl rfl (take_ofW HT_.out HW_.out (by kernel_rfl)) (fun _ _ _ h => h) (Or.inl ⟨by rfl, ?_⟩) (Below.refl _ _) ?_ ?_
              rotate_left
              · intro Wx hWx
                have hc := (XB.out.below hWx).c1
                go_simp
                try with_reducible rfl
              rotate_left
              · simp only [Act.put, List.setIfInBounds_toArray, List.set_cons_zero, List.set_cons_succ, i64_w, i32_w]
                rfl
              refine pure_ (i := 5) (N := (some 34)) (v := ?_) (a' := ?_) #[true, true, true, true, true, true, false, false, false, false, false, false, false, false, false, false, false, false, false, false, false, false] rfl rfl (any_of HT_.out (by kernel_rfl)) (fun _ _ _ h => h) (Or.inl ⟨by rfl, ?_⟩) ?_ ?_
              rotate_left
              · intro w_
                go_simp
                try with_reducible rfl
              rotate_left
              · simp only [Act.put, List.setIfInBounds_toArray, List.set_cons_zero, List.set_cons_succ, i64_w, i32_w]
                rfl
              refine pure_ (i := 6) (N := (some 35)) (v := ?_) (a' := ?_) #[true, true, true, true, true, true, true, false, false, false, false, false, false, false, false, false, false, false, false, false, false, false] rfl rfl (any_of HT_.out (by kernel_rfl)) (fun _ _ _ h => h) (Or.inl ⟨by rfl, ?_⟩) ?_ ?_
              rotate_left
              · intro w_
                go_simp
                try with_reducible rfl
              rotate_left
              · simp only [Act.put, List.setIfInBounds_toArray, List.set_cons_zero, List.set_cons_succ, i64_w, i32_w]
                rfl
              refine pure_ (i := 7) (N := (some 36)) (v := ?_) (a' := ?_) #[true, true, true, true, true, true, true, true, false, false, false, false, false, false, false, false, false, false, false, false, false, false] rfl rfl (any_of HT_.out (by kernel_rfl)) (fun _ _ _ h => h) (Or.inl ⟨by rfl, ?_⟩) ?_ ?_
              rotate_left
              · intro w_
                go_simp
                try with_reducible rfl
              rotate_left
              · simp only [Act.put, List.setIfInBounds_toArray, List.set_cons_zero, List.set_cons_succ, i64_w, i32_w]
                rfl
              refine pure_ (i := 8) (N := (some 37)) (v := ?_) (a' := ?_) #[true, true, true, true, true, true, true, true, true, false, false, false, false, false, false, false, false, false, false, false, false, false] rfl rfl (any_of HT_.out (by kernel_rfl)) (fun _ _ _ h => h) (Or.inl ⟨by rfl, ?_⟩) ?_ ?_
              rotate_left
              · intro w_
                go_simp
                try with_reducible rfl
              rotate_left
              · simp only [Act.put, List.setIfInBounds_toArray, List.set_cons_zero, List.set_cons_succ, i64_w, i32_w]
                rfl
              refine pure_ (i := 9) (N := (some 38)) (v := undef) (a' := ?_) #[true, true, true, true, true, true, true, true, true, true, false, false, false, false, false, false, false, false, false, false, false, false] rfl rfl (any_of HT_.out (by kernel_rfl)) (fun _ _ _ h => h) (Or.inr ⟨by rfl, rfl⟩) ?_ ?_
              rotate_left
              · simp only [Act.put, List.setIfInBounds_toArray, List.set_cons_zero, List.set_cons_succ, i64_w, i32_w]
                rfl
              refine pure_ (i := 10) (N := (some 39)) (v := undef) (a' := ?_) #[true, true, true, true, true, true, true, true, true, true, true, false, false, false, false, false, false, false, false, false, false, false] rfl rfl (any_of HT_.out (by kernel_rfl)) (fun _ _ _ h => h) (Or.inr ⟨by rfl, rfl⟩) ?_ ?_
              rotate_left
              · simp only [Act.put, List.setIfInBounds_toArray, List.set_cons_zero, List.set_cons_succ, i64_w, i32_w]
                rfl
              refine pure_ (i := 11) (N := (some 40)) (v := undef) (a' := ?_) #[true, true, true, true, true, true, true, true, true, true, true, true, false, false, false, false, false, false, false, false, false, false] rfl rfl (any_of HT_.out (by kernel_rfl)) (fun _ _ _ h => h) (Or.inr ⟨by rfl, rfl⟩) ?_ ?_
              rotate_left
              · simp only [Act.put, List.setIfInBounds_toArray, List.set_cons_zero, List.set_cons_succ, i64_w, i32_w]
                rfl
              refine pure_ (i := 12) (N := (some 41)) (v := undef) (a' := ?_) #[true, true, true, true, true, true, true, true, true, true, true, true, true, false, false, false, false, false, false, false, false, false] rfl rfl (any_of HT_.out (by kernel_rfl)) (fun _ _ _ h => h) (Or.inr ⟨by rfl, rfl⟩) ?_ ?_
              rotate_left
              · simp only [Act.put, List.setIfInBounds_toArray, List.set_cons_zero, List.set_cons_succ, i64_w, i32_w]
                rfl
              refine pure_ (i := 13) (N := (some 42)) (v := undef) (a' := ?_) #[true, true, true, true, true, true, true, true, true, true, true, true, true, true, false, false, false, false, false, false, false, false] rfl rfl (any_of HT_.out (by kernel_rfl)) (fun _ _ _ h => h) (Or.inr ⟨by rfl, rfl⟩) ?_ ?_
              rotate_left
              · simp only [Act.put, List.setIfInBounds_toArray, List.set_cons_zero, List.set_cons_succ, i64_w, i32_w]
                rfl
              refine pure_ (i := 14) (N := (some 43)) (v := undef) (a' := ?_) #[true, true, true, true, true, true, true, true, true, true, true, true, true, true, true, false, false, false, false, false, false, false] rfl rfl (any_of HT_.out (by kernel_rfl)) (fun _ _ _ h => h) (Or.inr ⟨by rfl, rfl⟩) ?_ ?_
              rotate_left
              · simp only [Act.put, List.setIfInBounds_toArray, List.set_cons_zero, List.set_cons_succ, i64_w, i32_w]
                rfl
              refine pure_ (i := 15) (N := (some 44)) (v := undef) (a' := ?_) #[true, true, true, true, true, true, true, true, true, true, true, true, true, true, true, true, false, false, false, false, false, false] rfl rfl (any_of HT_.out (by kernel_rfl)) (fun _ _ _ h => h) (Or.inr ⟨by rfl, rfl⟩) ?_ ?_
              rotate_left
              · simp only [Act.put, List.setIfInBounds_toArray, List.set_cons_zero, List.set_cons_succ, i64_w, i32_w]
                rfl
              refine pure_ (i := 16) (N := (some 45)) (v := undef) (a' := ?_) #[true, true, true, true, true, true, true, true, true, true, true, true, true, true, true, true, true, false, false, false, false, false] rfl rfl (any_of HT_.out (by kernel_rfl)) (fun _ _ _ h => h) (Or.inr ⟨by rfl, rfl⟩) ?_ ?_
              rotate_left
              · simp only [Act.put, List.setIfInBounds_toArray, List.set_cons_zero, List.set_cons_succ, i64_w, i32_w]
                rfl
              refine pure_ (i := 17) (N := (some 46)) (v := undef) (a' := ?_) #[true, true, true, true, true, true, true, true, true, true, true, true, true, true, true, true, true, true, false, false, false, false] rfl rfl (any_of HT_.out (by kernel_rfl)) (fun _ _ _ h => h) (Or.inr ⟨by rfl, rfl⟩) ?_ ?_
              rotate_left
              · simp only [Act.put, List.setIfInBounds_toArray, List.set_cons_zero, List.set_cons_succ, i64_w, i32_w]
                rfl
              refine pure_ (i := 18) (N := (some 47)) (v := undef) (a' := ?_) #[true, true, true, true, true, true, true, true, true, true, true, true, true, true, true, true, true, true, true, false, false, false] rfl rfl (any_of HT_.out (by kernel_rfl)) (fun _ _ _ h => h) (Or.inr ⟨by rfl, rfl⟩) ?_ ?_
              rotate_left
              · simp only [Act.put, List.setIfInBounds_toArray, List.set_cons_zero, List.set_cons_succ, i64_w, i32_w]
                rfl
              refine pure_ (i := 19) (N := (some 48)) (v := undef) (a' := ?_) #[true, true, true, true, true, true, true, true, true, true, true, true, true, true, true, true, true, true, true, true, false, false] rfl rfl (any_of HT_.out (by kernel_rfl)) (fun _ _ _ h => h) (Or.inr ⟨by rfl, rfl⟩) ?_ ?_
              rotate_left
              · simp only [Act.put, List.setIfInBounds_toArray, List.set_cons_zero, List.set_cons_succ, i64_w, i32_w]
                rfl
              refine pure_ (i := 20) (N := (some 49)) (v := ?_) (a' := ?_) #[true, true, true, true, true, true, true, true, true, true, true, true, true, true, true, true, true, true, true, true, true, false] rfl rfl (any_of HT_.out (by kernel_rfl)) (fun _ _ _ h => h) (Or.inl ⟨by rfl, ?_⟩) ?_ ?_
              rotate_left
              · intro w_
                go_simp
                try with_reducible rfl
              rotate_left
              · simp only [Act.put, List.setIfInBounds_toArray, List.set_cons_zero, List.set_cons_succ, i64_w, i32_w]
                rfl
              refine pure_ (i := 21) (N := (some 5)) (v := ?_) (a' := ?_) #[true, true, true, true, true, true, true, true, true, true, true, true, true, true, true, true, true, true, true, true, true, true] rfl rfl (any_of HT_.out (by kernel_rfl)) (fun _ _ _ h => h) (Or.inl ⟨by rfl, ?_⟩) ?_ ?_
              rotate_left
              · intro w_
                go_simp
                try with_reducible rfl
              rotate_left
              · simp only [Act.put, List.setIfInBounds_toArray, List.set_cons_zero, List.set_cons_succ, i64_w, i32_w]
                rfl
              refine done_ (done_of HT_.out (by kernel_rfl)) ?_
              go_wp2_with fail
              go_roundw
              case rel => exact ⟨i + 1, by have := Hlt.out; omega, by rw [HE.out]; rfl, by rw [w64_in _ (by have := Hlt.out; have := HLa.out; omega)]; rfl, HB⟩
              case measure => have h1 := Hlt.out; have h2 := HLa.out; rw [w64_in _ (by omega)]; simp [intOf]; omega
        · have d1 : decide (i < a.ls.length) = false := decide_eq_false hlt
          have hi2 : i = a.ls.length := by omega
          have HSm : Aside0 (sameTo a.ls b.ls i = sameL a.ls b.ls) := ⟨by rw [hi2]; rfl⟩
          rw [HSm.out]
          obtain ⟨W, hW⟩ : ∃ W, W = wr.alloc (.cells #[.int .i64 b.at_, .slice a.A a.ls.length a.c, .string b.line] 34) := ⟨_, rfl⟩
          obtain ⟨jc, hjc⟩ : ∃ jc, jc = wr.heap.size := ⟨_, rfl⟩
          have hb0 : Below wr.heap.size wr W := by rw [hW]; exact below_alloc (Below.refl _ wr) _
          obtain ⟨c, hc⟩ : ∃ c : Ent, c = ⟨b.at_, a.A, a.c, a.ls, b.line⟩ := ⟨_, rfl⟩
          have XC : Aside0 (BoxE W jc c) := ⟨by rw [hW, hjc, hc]; exact Go.heap_alloc_new _ _⟩
          have a0 := XA.out.c0
          have a1 := XA.out.c1
          have a2 := XA.out.c2
          have b0 : ∀ o, (wr.alloc o).cell? ⟨j + 1, 0, none⟩ = _ := fun o => cell_below (below_alloc (Below.refl _ wr) o) XB.out.c0
          have b2 : ∀ o, (wr.alloc o).cell? ⟨j + 1, 2, none⟩ = _ := fun o => cell_below (below_alloc (Below.refl _ wr) o) XB.out.c2
          have HBw : Aside0 (Below w.heap.size w W) := ⟨below_step (below_step HBo.out HB.out) hb0⟩
          have IA := Aside0.mk ((IA.out.below HB.out).below hb0)
          have IB := Aside0.mk ((IB.out.below HB.out).below hb0)
          have IC : Aside0 (c.In W) := ⟨by rw [hc]; exact ⟨IA.out.lies, IA.out.cap, IA.out.few⟩⟩
          have SC : Aside0 (Short c.ls) := ⟨by rw [hc]; exact SA.out⟩
          have XA := Aside0.mk (XA.out.below hb0)
          have XB := Aside0.mk (XB.out.below hb0)
          have HcS : Aside0 (putB c.ls = putB a.ls) := ⟨by rw [hc]⟩
          obtain ⟨sm, hsm⟩ : ∃ s, s = sameL a.ls b.ls := ⟨_, rfl⟩
          obtain ⟨q, hq⟩ : ∃ q, q = cmpE c.key b.key := ⟨_, rfl⟩
          have HQ : Aside0 ((q == 0) = sm) := ⟨by
            rw [hq, hsm, Bool.eq_iff_iff, beq_iff_eq, sameL_iff, cmpE_c.eq0, hc]
            constructor
            · intro h; exact congrArg Key.ls h
            · intro h; unfold Ent.key; rw [h]⟩
          have HCmp : Aside0 (∀ V, Below W.heap.size W V → Calls Try.prog 22 #[c.val, b.val] V fun e w' => e = .returned (.int .i64 q) ∧ Below V.heap.size V w') := ⟨fun V h => by
            rw [hq]; exact (compare_any c b V (IC.out.below h) (IB.out.below h)).mono fun _ _ ⟨x, y⟩ => ⟨x, y.below⟩⟩
          have HSt : Aside0 (((str (putB a.ls)).toList == (str (putB b.ls)).toList) = sm) := ⟨by
            rw [hsm, Bool.eq_iff_iff, beq_iff_eq, sameL_iff]
            constructor
            · intro h
              have h2 := toList_inj h
              have h3 : putB a.ls ++ [] = putB b.ls ++ [] := by
                have := congrArg (fun s : ByteArray => s.data.toList) h2
                rw [data_str, data_str] at this
                rw [List.append_nil, List.append_nil]; exact this
              exact (putB_inj h3).1
            · intro h; rw [h]⟩
          obtain ⟨p, hp⟩ : ∃ p, p = str (putB a.ls) := ⟨_, rfl⟩
          obtain ⟨p2, hp2⟩ : ∃ p, p = str (putB b.ls) := ⟨_, rfl⟩
          rw [← hp, ← hp2] at HSt
          have HSa : Aside0 (∀ V, Below W.heap.size W V → Calls Try.prog 29 #[a.val] V fun e w' => e = .returned (.string p) ∧ Below V.heap.size V w') := ⟨fun V h => by rw [hp]; exact stream_any a V (IA.out.below h) SA.out⟩
          have HSb : Aside0 (∀ V, Below W.heap.size W V → Calls Try.prog 29 #[b.val] V fun e w' => e = .returned (.string p2) ∧ Below V.heap.size V w') := ⟨fun V h => by rw [hp2]; exact stream_any b V (IB.out.below h) SB.out⟩
          have HSc : Aside0 (∀ V, Below W.heap.size W V → Calls Try.prog 29 #[c.val] V fun e w' => e = .returned (.string p) ∧ Below V.heap.size V w') := ⟨fun V h => by rw [hp, ← HcS.out]; exact stream_any c V (IC.out.below h) SC.out⟩
          have hsm' : sameL a.ls b.ls = sm := hsm.symm
          have HcA : Aside0 (c.A = a.A ∧ c.ls = a.ls ∧ c.c = a.c ∧ c.at_ = b.at_ ∧ c.line = b.line) := ⟨by rw [hc]; exact ⟨rfl, rfl, rfl, rfl, rfl⟩⟩
          have HW := Aside0.mk hW
          have HJ := Aside0.mk hjc
          rw [hsm']
          clear HSm hi2 hi hlt hb0 hc hq hp hp2 hsm hsm' hW hjc HB SA SB SC IA IB IC HBo
          go_wp2_with fail
          try rw [← HW.out]
          try rw [← HJ.out]
          clear HW HJ a0 a1 a2 b0 b2
          obtain ⟨HSt⟩ := HSt
          obtain ⟨HQ⟩ := HQ
          unfold Ent.val at HSa HSb HSc HCmp
          have HBS : Aside0 (Below W.heap.size W W) := ⟨Below.refl _ _⟩
          have HB : Aside0 (Below W.heap.size W W) := ⟨Below.refl _ _⟩
          refine start_ (n := 23) (S := fun x_ => Below W.heap.size W x_) (ds := []) #[false, false, false, false, false, false, false, false, false, false, false, false, false, false, false, false, false, false, false, false, false, false, false] (by kernel_rfl) rfl rfl (pw_below_drewN (Below.refl _ _) 1) (fun hHeld => ?_)
          refine with_tabW tab_magpielaw04_RecordStreams_14 bits_magpielaw04_RecordStreams_14 (fun HT_ HW_ => ?_)
          have HB := Aside0.mk (pw_below_drewN HB.out 1)
          change Aside0 (Below _ _ (World.drew W)) at HB
          change Below _ _ (World.drew W) at hHeld
          have hSz : (World.drew W).heap.size = W.heap.size := rfl
          have XA := Aside0.mk (show BoxE (World.drew W) j a from XA.out)
          have XB := Aside0.mk (show BoxE (World.drew W) (j + 1) b from XB.out)
          have XC := Aside0.mk (show BoxE (World.drew W) jc c from XC.out)
          have HSa := Aside0.mk (fun V (h : Below (World.drew W).heap.size (World.drew W) V) => HSa.out V ⟨h.os, h.tape, h.output, h.size, h.block⟩)
          have HSb := Aside0.mk (fun V (h : Below (World.drew W).heap.size (World.drew W) V) => HSb.out V ⟨h.os, h.tape, h.output, h.size, h.block⟩)
          have HSc := Aside0.mk (fun V (h : Below (World.drew W).heap.size (World.drew W) V) => HSc.out V ⟨h.os, h.tape, h.output, h.size, h.block⟩)
          have HCmp := Aside0.mk (fun V (h : Below (World.drew W).heap.size (World.drew W) V) => HCmp.out V ⟨h.os, h.tape, h.output, h.size, h.block⟩)
          have HBS : Aside0 (Below (World.drew W).heap.size (World.drew W) (World.drew W)) := ⟨Below.refl _ _⟩
          refine wpAnyLast_str (S' := fun x_ => Below (World.drew W).heap.size (World.drew W) x_) (fun x_ hx_ => below_step hHeld hx_) (Below.refl _ _) ?_
          clear hHeld hSz
          generalize World.drew W = Wd at *
          have HS := Aside0.mk (Below.refl Wd.heap.size Wd)
          refine pure_ (i := 5) (N := (some 63)) (v := ?_) (a' := ?_) #[false, false, false, false, false, true, false, false, false, false, false, false, false, false, false, false, false, false, false, false, false, false, false] rfl rfl (any_of HT_.out (by kernel_rfl)) (fun _ _ _ h => h) (Or.inl ⟨by rfl, ?_⟩) ?_ ?_
          rotate_left
          · intro w_
            go_simp
            try with_reducible rfl
          rotate_left
          · simp only [Act.put, List.setIfInBounds_toArray, List.set_cons_zero, List.set_cons_succ, i64_w, i32_w]
            rfl
          refine take_ (i := 0) (N := (some 58)) (v := ?_) (a' := ?_) #[true, false, false, false, false, true, false, false, false, false, false, false, false, false, false, false, false, false, false, false, false, false, false] rfl rfl (take_ofW HT_.out HW_.out (by kernel_rfl)) (fun _ _ _ h => h) (Or.inl ⟨by rfl, ?_⟩) (Below.refl _ _) ?_ ?_
          rotate_left
          · intro Wx hWx
            have h0 := (XA.out.below hWx).c0
            have h1 := (XA.out.below hWx).c1
            have h2 := (XA.out.below hWx).c2
            go_simp
            try with_reducible rfl
          rotate_left
          · simp only [Act.put, List.setIfInBounds_toArray, List.set_cons_zero, List.set_cons_succ, i64_w, i32_w]
            rfl
          refine take_ (i := 2) (N := (some 60)) (v := ?_) (a' := ?_) #[true, false, true, false, false, true, false, false, false, false, false, false, false, false, false, false, false, false, false, false, false, false, false] rfl rfl (take_ofW HT_.out HW_.out (by kernel_rfl)) (fun _ _ _ h => h) (Or.inl ⟨by rfl, ?_⟩) (Below.refl _ _) ?_ ?_
          rotate_left
          · intro Wx hWx
            have h0 := (XB.out.below hWx).c0
            have h1 := (XB.out.below hWx).c1
            have h2 := (XB.out.below hWx).c2
            go_simp
            try with_reducible rfl
          rotate_left
          · simp only [Act.put, List.setIfInBounds_toArray, List.set_cons_zero, List.set_cons_succ, i64_w, i32_w]
            rfl
          refine one_ (i := 1) (N := (some 59)) #[true, true, true, false, false, true, false, false, false, false, false, false, false, false, false, false, false, false, false, false, false, false, false] rfl rfl (one_of HT_.out (by kernel_rfl)) (by decide) (fun K hK => ?_)
          refine goes_ Try.func29 (by kernel_rfl) rfl #[.agg #[.int .i64 a.at_, .slice a.A a.ls.length a.c, .string a.line]] (by rfl) rfl rfl (by (try simp only [List.map_toArray, List.map_cons, List.map_nil]); first | done | rfl) ?_
          refine (HSa.out _ HBS.out).mono ?_
          rintro e w14_1 ⟨rfl, hb_1⟩
          refine ⟨_, rfl, ?_⟩
          have XA := Aside0.mk (XA.out.below hb_1)
          have XB := Aside0.mk (XB.out.below hb_1)
          have XC := Aside0.mk (XC.out.below hb_1)
          have HBS := Aside0.mk (below_step HBS.out hb_1)
          have hb_ : Below Wd.heap.size Wd w14_1 := hb_1
          have HB := Aside0.mk (below_step HB.out hb_)
          refine hK.out _ _ hb_ (fun hHeld => ?_)
          clear hK K
          refine wpAnyLast_str (S' := fun x_ => Below w14_1.heap.size w14_1 x_) (fun x_ hx_ => below_step hHeld hx_) (Below.refl _ _) ?_
          clear hHeld
          (try clear hb)
          clear hb_
          have HS := Aside0.mk (Below.refl w14_1.heap.size w14_1)
          refine norm_ (a' := ?_) ?_ ?_
          rotate_left
          · show Act.put _ (some 59) _ = _
            simp only [Act.put, List.setIfInBounds_toArray, List.set_cons_zero, List.set_cons_succ, i64_w, i32_w]
            rfl
          refine one_ (i := 3) (N := (some 61)) #[true, true, true, true, false, true, false, false, false, false, false, false, false, false, false, false, false, false, false, false, false, false, false] rfl rfl (one_of HT_.out (by kernel_rfl)) (by decide) (fun K hK => ?_)
          refine goes_ Try.func29 (by kernel_rfl) rfl #[.agg #[.int .i64 b.at_, .slice b.A b.ls.length b.c, .string b.line]] (by rfl) rfl rfl (by (try simp only [List.map_toArray, List.map_cons, List.map_nil]); first | done | rfl) ?_
          refine (HSb.out _ HBS.out).mono ?_
          rintro e w14_3 ⟨rfl, hb_1⟩
          refine ⟨_, rfl, ?_⟩
          have XA := Aside0.mk (XA.out.below hb_1)
          have XB := Aside0.mk (XB.out.below hb_1)
          have XC := Aside0.mk (XC.out.below hb_1)
          have HBS := Aside0.mk (below_step HBS.out hb_1)
          have hb_ : Below w14_1.heap.size w14_1 w14_3 := hb_1
          have HB := Aside0.mk (below_step HB.out hb_)
          refine hK.out _ _ hb_ (fun hHeld => ?_)
          clear hK K
          refine wpAnyLast_str (S' := fun x_ => Below w14_3.heap.size w14_3 x_) (fun x_ hx_ => below_step hHeld hx_) (Below.refl _ _) ?_
          clear hHeld
          (try clear hb)
          clear hb_
          have HS := Aside0.mk (Below.refl w14_3.heap.size w14_3)
          refine norm_ (a' := ?_) ?_ ?_
          rotate_left
          · show Act.put _ (some 61) _ = _
            simp only [Act.put, List.setIfInBounds_toArray, List.set_cons_zero, List.set_cons_succ, i64_w, i32_w]
            rfl
          refine pure_ (i := 4) (N := (some 62)) (v := ?_) (a' := ?_) #[true, true, true, true, true, true, false, false, false, false, false, false, false, false, false, false, false, false, false, false, false, false, false] rfl rfl (any_of HT_.out (by kernel_rfl)) (fun _ _ _ h => h) (Or.inl ⟨by rfl, ?_⟩) ?_ ?_
          rotate_left
          · intro w_
            go_simp
            try with_reducible rfl
          rotate_left
          · simp only [Act.put, List.setIfInBounds_toArray, List.set_cons_zero, List.set_cons_succ, i64_w, i32_w]
            rfl
          refine pure_ (i := 6) (N := (some 64)) (v := ?_) (a' := ?_) #[true, true, true, true, true, true, true, false, false, false, false, false, false, false, false, false, false, false, false, false, false, false, false] rfl rfl (any_of HT_.out (by kernel_rfl)) (fun _ _ _ h => h) (Or.inl ⟨by rfl, ?_⟩) ?_ ?_
          rotate_left
          · intro w_
            go_simp
            try with_reducible rfl
          rotate_left
          · simp only [Act.put, List.setIfInBounds_toArray, List.set_cons_zero, List.set_cons_succ, i64_w, i32_w]
            rfl
          refine pure_ (i := 7) (N := (some 65)) (v := ?_) (a' := ?_) #[true, true, true, true, true, true, true, true, false, false, false, false, false, false, false, false, false, false, false, false, false, false, false] rfl rfl (any_of HT_.out (by kernel_rfl)) (fun _ _ _ h => h) (Or.inl ⟨by rfl, ?_⟩) ?_ ?_
          rotate_left
          · intro w_
            go_simp
            try with_reducible rfl
          rotate_left
          · simp only [Act.put, List.setIfInBounds_toArray, List.set_cons_zero, List.set_cons_succ, i64_w, i32_w]
            rfl
          refine take_ (i := 8) (N := (some 66)) (v := ?_) (a' := ?_) #[true, true, true, true, true, true, true, true, true, false, false, false, false, false, false, false, false, false, false, false, false, false, false] rfl rfl (take_ofW HT_.out HW_.out (by kernel_rfl)) (fun _ _ _ h => h) (Or.inl ⟨by rfl, ?_⟩) (Below.refl _ _) ?_ ?_
          rotate_left
          · intro Wx hWx
            have h0 := (XC.out.below hWx).c0
            have h1 := (XC.out.below hWx).c1
            have h2 := (XC.out.below hWx).c2
            go_simp
            try with_reducible rfl
          rotate_left
          · simp only [Act.put, List.setIfInBounds_toArray, List.set_cons_zero, List.set_cons_succ, i64_w, i32_w]
            rfl
          refine take_ (i := 10) (N := (some 68)) (v := ?_) (a' := ?_) #[true, true, true, true, true, true, true, true, true, false, true, false, false, false, false, false, false, false, false, false, false, false, false] rfl rfl (take_ofW HT_.out HW_.out (by kernel_rfl)) (fun _ _ _ h => h) (Or.inl ⟨by rfl, ?_⟩) (Below.refl _ _) ?_ ?_
          rotate_left
          · intro Wx hWx
            have h0 := (XA.out.below hWx).c0
            have h1 := (XA.out.below hWx).c1
            have h2 := (XA.out.below hWx).c2
            go_simp
            try with_reducible rfl
          rotate_left
          · simp only [Act.put, List.setIfInBounds_toArray, List.set_cons_zero, List.set_cons_succ, i64_w, i32_w]
            rfl
          refine one_ (i := 9) (N := (some 67)) #[true, true, true, true, true, true, true, true, true, true, true, false, false, false, false, false, false, false, false, false, false, false, false] rfl rfl (one_of HT_.out (by kernel_rfl)) (by decide) (fun K hK => ?_)
          refine goes_ Try.func29 (by kernel_rfl) rfl #[.agg #[.int .i64 c.at_, .slice c.A c.ls.length c.c, .string c.line]] (by rfl) rfl rfl (by (try simp only [List.map_toArray, List.map_cons, List.map_nil]); first | done | rfl) ?_
          refine (HSc.out _ HBS.out).mono ?_
          rintro e w14_9 ⟨rfl, hb_1⟩
          refine ⟨_, rfl, ?_⟩
          have XA := Aside0.mk (XA.out.below hb_1)
          have XB := Aside0.mk (XB.out.below hb_1)
          have XC := Aside0.mk (XC.out.below hb_1)
          have HBS := Aside0.mk (below_step HBS.out hb_1)
          have hb_ : Below w14_3.heap.size w14_3 w14_9 := hb_1
          have HB := Aside0.mk (below_step HB.out hb_)
          refine hK.out _ _ hb_ (fun hHeld => ?_)
          clear hK K
          refine wpAnyLast_str (S' := fun x_ => Below w14_9.heap.size w14_9 x_) (fun x_ hx_ => below_step hHeld hx_) (Below.refl _ _) ?_
          clear hHeld
          (try clear hb)
          clear hb_
          have HS := Aside0.mk (Below.refl w14_9.heap.size w14_9)
          refine norm_ (a' := ?_) ?_ ?_
          rotate_left
          · show Act.put _ (some 67) _ = _
            simp only [Act.put, List.setIfInBounds_toArray, List.set_cons_zero, List.set_cons_succ, i64_w, i32_w]
            rfl
          refine one_ (i := 11) (N := (some 69)) #[true, true, true, true, true, true, true, true, true, true, true, true, false, false, false, false, false, false, false, false, false, false, false] rfl rfl (one_of HT_.out (by kernel_rfl)) (by decide) (fun K hK => ?_)
          refine goes_ Try.func29 (by kernel_rfl) rfl #[.agg #[.int .i64 a.at_, .slice a.A a.ls.length a.c, .string a.line]] (by rfl) rfl rfl (by (try simp only [List.map_toArray, List.map_cons, List.map_nil]); first | done | rfl) ?_
          refine (HSa.out _ HBS.out).mono ?_
          rintro e w14_11 ⟨rfl, hb_1⟩
          refine ⟨_, rfl, ?_⟩
          have XA := Aside0.mk (XA.out.below hb_1)
          have XB := Aside0.mk (XB.out.below hb_1)
          have XC := Aside0.mk (XC.out.below hb_1)
          have HBS := Aside0.mk (below_step HBS.out hb_1)
          have hb_ : Below w14_9.heap.size w14_9 w14_11 := hb_1
          have HB := Aside0.mk (below_step HB.out hb_)
          refine hK.out _ _ hb_ (fun hHeld => ?_)
          clear hK K
          refine wpAnyLast_str (S' := fun x_ => Below w14_11.heap.size w14_11 x_) (fun x_ hx_ => below_step hHeld hx_) (Below.refl _ _) ?_
          clear hHeld
          (try clear hb)
          clear hb_
          have HS := Aside0.mk (Below.refl w14_11.heap.size w14_11)
          refine norm_ (a' := ?_) ?_ ?_
          rotate_left
          · show Act.put _ (some 69) _ = _
            simp only [Act.put, List.setIfInBounds_toArray, List.set_cons_zero, List.set_cons_succ, i64_w, i32_w]
            rfl
          refine pure_ (i := 12) (N := (some 70)) (v := ?_) (a' := ?_) #[true, true, true, true, true, true, true, true, true, true, true, true, true, false, false, false, false, false, false, false, false, false, false] rfl rfl (any_of HT_.out (by kernel_rfl)) (fun _ _ _ h => h) (Or.inl ⟨by rfl, ?_⟩) ?_ ?_
          rotate_left
          · intro w_
            go_simp
            try with_reducible rfl
          rotate_left
          · simp only [Act.put, List.setIfInBounds_toArray, List.set_cons_zero, List.set_cons_succ, i64_w, i32_w]
            rfl
          refine pure_ (i := 13) (N := (some 71)) (v := ?_) (a' := ?_) #[true, true, true, true, true, true, true, true, true, true, true, true, true, true, false, false, false, false, false, false, false, false, false] rfl rfl (any_of HT_.out (by kernel_rfl)) (fun _ _ _ h => h) (Or.inl ⟨by rfl, ?_⟩) ?_ ?_
          rotate_left
          · intro w_
            go_simp
            try with_reducible rfl
          rotate_left
          · simp only [Act.put, List.setIfInBounds_toArray, List.set_cons_zero, List.set_cons_succ, i64_w, i32_w]
            rfl
          refine pure_ (i := 14) (N := (some 72)) (v := ?_) (a' := ?_) #[true, true, true, true, true, true, true, true, true, true, true, true, true, true, true, false, false, false, false, false, false, false, false] rfl rfl (any_of HT_.out (by kernel_rfl)) (fun _ _ _ h => h) (Or.inl ⟨by rfl, ?_⟩) ?_ ?_
          rotate_left
          · intro w_
            go_simp
            try with_reducible rfl
          rotate_left
          · simp only [Act.put, List.setIfInBounds_toArray, List.set_cons_zero, List.set_cons_succ, i64_w, i32_w]
            rfl
          refine pure_ (i := 19) (N := (some 77)) (v := ?_) (a' := ?_) #[true, true, true, true, true, true, true, true, true, true, true, true, true, true, true, false, false, false, false, true, false, false, false] rfl rfl (any_of HT_.out (by kernel_rfl)) (fun _ _ _ h => h) (Or.inl ⟨by rfl, ?_⟩) ?_ ?_
          rotate_left
          · intro w_
            go_simp
            try with_reducible rfl
          rotate_left
          · simp only [Act.put, List.setIfInBounds_toArray, List.set_cons_zero, List.set_cons_succ, i64_w, i32_w]
            rfl
          refine take_ (i := 15) (N := (some 73)) (v := ?_) (a' := ?_) #[true, true, true, true, true, true, true, true, true, true, true, true, true, true, true, true, false, false, false, true, false, false, false] rfl rfl (take_ofW HT_.out HW_.out (by kernel_rfl)) (fun _ _ _ h => h) (Or.inl ⟨by rfl, ?_⟩) (Below.refl _ _) ?_ ?_
          rotate_left
          · intro Wx hWx
            have h0 := (XC.out.below hWx).c0
            have h1 := (XC.out.below hWx).c1
            have h2 := (XC.out.below hWx).c2
            go_simp
            try with_reducible rfl
          rotate_left
          · simp only [Act.put, List.setIfInBounds_toArray, List.set_cons_zero, List.set_cons_succ, i64_w, i32_w]
            rfl
          refine take_ (i := 16) (N := (some 74)) (v := ?_) (a' := ?_) #[true, true, true, true, true, true, true, true, true, true, true, true, true, true, true, true, true, false, false, true, false, false, false] rfl rfl (take_ofW HT_.out HW_.out (by kernel_rfl)) (fun _ _ _ h => h) (Or.inl ⟨by rfl, ?_⟩) (Below.refl _ _) ?_ ?_
          rotate_left
          · intro Wx hWx
            have h0 := (XB.out.below hWx).c0
            have h1 := (XB.out.below hWx).c1
            have h2 := (XB.out.below hWx).c2
            go_simp
            try with_reducible rfl
          rotate_left
          · simp only [Act.put, List.setIfInBounds_toArray, List.set_cons_zero, List.set_cons_succ, i64_w, i32_w]
            rfl
          refine one_ (i := 17) (N := (some 75)) #[true, true, true, true, true, true, true, true, true, true, true, true, true, true, true, true, true, true, false, true, false, false, false] rfl rfl (one_of HT_.out (by kernel_rfl)) (by decide) (fun K hK => ?_)
          refine goes_ Try.func22 (by kernel_rfl) rfl #[.agg #[.int .i64 c.at_, .slice c.A c.ls.length c.c, .string c.line], .agg #[.int .i64 b.at_, .slice b.A b.ls.length b.c, .string b.line]] (by rfl) rfl rfl (by (try simp only [List.map_toArray, List.map_cons, List.map_nil]); first | done | rfl) ?_
          refine (HCmp.out _ HBS.out).mono ?_
          rintro e w14_17 ⟨rfl, hb_1⟩
          refine ⟨_, rfl, ?_⟩
          have XA := Aside0.mk (XA.out.below hb_1)
          have XB := Aside0.mk (XB.out.below hb_1)
          have XC := Aside0.mk (XC.out.below hb_1)
          have HBS := Aside0.mk (below_step HBS.out hb_1)
          have hb_ : Below w14_11.heap.size w14_11 w14_17 := hb_1
          have HB := Aside0.mk (below_step HB.out hb_)
          refine hK.out _ _ hb_ (fun hHeld => ?_)
          clear hK K
          refine wpAnyLast_str (S' := fun x_ => Below w14_17.heap.size w14_17 x_) (fun x_ hx_ => below_step hHeld hx_) (Below.refl _ _) ?_
          clear hHeld
          (try clear hb)
          clear hb_
          have HS := Aside0.mk (Below.refl w14_17.heap.size w14_17)
          refine norm_ (a' := ?_) ?_ ?_
          rotate_left
          · show Act.put _ (some 75) _ = _
            simp only [Act.put, List.setIfInBounds_toArray, List.set_cons_zero, List.set_cons_succ, i64_w, i32_w]
            rfl
          refine pure_ (i := 18) (N := (some 76)) (v := ?_) (a' := ?_) #[true, true, true, true, true, true, true, true, true, true, true, true, true, true, true, true, true, true, true, true, false, false, false] rfl rfl (any_of HT_.out (by kernel_rfl)) (fun _ _ _ h => h) (Or.inl ⟨by rfl, ?_⟩) ?_ ?_
          rotate_left
          · intro w_
            go_simp
            try with_reducible rfl
          rotate_left
          · simp only [Act.put, List.setIfInBounds_toArray, List.set_cons_zero, List.set_cons_succ, i64_w, i32_w]
            rfl
          refine pure_ (i := 20) (N := (some 78)) (v := ?_) (a' := ?_) #[true, true, true, true, true, true, true, true, true, true, true, true, true, true, true, true, true, true, true, true, true, false, false] rfl rfl (any_of HT_.out (by kernel_rfl)) (fun _ _ _ h => h) (Or.inl ⟨by rfl, ?_⟩) ?_ ?_
          rotate_left
          · intro w_
            go_simp
            try with_reducible rfl
          rotate_left
          · simp only [Act.put, List.setIfInBounds_toArray, List.set_cons_zero, List.set_cons_succ, i64_w, i32_w]
            rfl
          refine pure_ (i := 21) (N := (some 79)) (v := ?_) (a' := ?_) #[true, true, true, true, true, true, true, true, true, true, true, true, true, true, true, true, true, true, true, true, true, true, false] rfl rfl (any_of HT_.out (by kernel_rfl)) (fun _ _ _ h => h) (Or.inl ⟨by rfl, ?_⟩) ?_ ?_
          rotate_left
          · intro w_
            go_simp
            try with_reducible rfl
          rotate_left
          · simp only [Act.put, List.setIfInBounds_toArray, List.set_cons_zero, List.set_cons_succ, i64_w, i32_w]
            rfl
          refine pure_ (i := 22) (N := (some 4)) (v := ?_) (a' := ?_) #[true, true, true, true, true, true, true, true, true, true, true, true, true, true, true, true, true, true, true, true, true, true, true] rfl rfl (any_of HT_.out (by kernel_rfl)) (fun _ _ _ h => h) (Or.inl ⟨by rfl, ?_⟩) ?_ ?_
          rotate_left
          · intro w_
            go_simp
            try with_reducible rfl
          rotate_left
          · simp only [Act.put, List.setIfInBounds_toArray, List.set_cons_zero, List.set_cons_succ, i64_w, i32_w]
            rfl
          refine done_ (done_of HT_.out (by kernel_rfl)) ?_
          go_wp2_with fail
          go_ret
          exact ⟨by simp, below_step HBw.out HB.out⟩
end Go.Proofs.Ytfejjfbhlmjkeaa.C
