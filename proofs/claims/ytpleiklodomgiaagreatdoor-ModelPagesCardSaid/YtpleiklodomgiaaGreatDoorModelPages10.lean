import Derived.Shelf.AbstractIn
import Derived.Sort.Grow
import Derived.Test.YtpleiklodomgiaaGreatDoorModelPages9
import Derived.Test.YtpleiklodomgiaaGreatDoorModelPages7
import Derived.Test.YtpleiklodomgiaaGreatDoorModelPages3
set_option linter.unusedVariables false
set_option linter.unusedSimpArgs false
section
namespace Go.Proofs.YtpleiklodomgiaaGreatDoor.B
end Go.Proofs.YtpleiklodomgiaaGreatDoor.B
namespace Go.Proofs.YtpleiklodomgiaaGreatDoor.CQ
end Go.Proofs.YtpleiklodomgiaaGreatDoor.CQ
namespace Go.Proofs.YtpleiklodomgiaaGreatDoor.PModelIs
end Go.Proofs.YtpleiklodomgiaaGreatDoor.PModelIs
namespace Go.Proofs.YtpleiklodomgiaaGreatDoor.Reg
end Go.Proofs.YtpleiklodomgiaaGreatDoor.Reg
namespace Go.Proofs.YtpleiklodomgiaaGreatDoor.C
open Go.RowKit Go.Proofs.YtpleiklodomgiaaGreatDoorW.PrintWords Go.Proofs.YtpleiklodomgiaaGreatDoorW.PrintLast Go.Proofs.YtpleiklodomgiaaGreatDoorW.PrintMore Go.Proofs.YtpleiklodomgiaaGreatDoor.B Go.Proofs.YtpleiklodomgiaaGreatDoor.Reg Go.Proofs.YtpleiklodomgiaaGreatDoor.PModelIs Go.Proofs.YtpleiklodomgiaaGreatDoor.CQ
structure Bd (w w' : World) : Prop where
 below : Below w.heap.size w w'
 drawn : w.drawn ≤ w'.drawn
theorem Bd.refl (w : World) : Bd w w := ⟨Below.refl _ _, Nat.le_refl _⟩
theorem Bd.trans {a b c : World} (h : Bd a b) (k : Bd b c) : Bd a c := ⟨below_step h.below k.below, Nat.le_trans h.drawn k.drawn⟩
theorem Bd.drewN {a b : World} (h : Bd a b) (n : Nat) : Bd a (b.drewN n) := ⟨pw_below_drewN h.below n, Nat.le_trans h.drawn (Nat.le_add_right _ _)⟩
theorem Bd.drew {a b : World} (h : Bd a b) : Bd a (b.drewN 1) := h.drewN 1
theorem Bd.alloc {a b : World} (h : Bd a b) (o : Obj) : Bd a (b.alloc o) := ⟨below_alloc h.below o, h.drawn⟩
theorem Bd.of0 {a b : World} (h : Drawn0 a b) : Bd a b := by
 obtain ⟨n, rfl⟩ := h.out
 exact (Bd.refl a).drewN n
theorem Bd.cell {a b : World} {p : Addr} {v : Value} (h : Bd a b) (hc : a.cell? p = some v) : b.cell? p = some v := by
 refine (h.below.cell ?_).trans hc
 unfold World.cell? at hc
 rcases Nat.lt_or_ge p.block a.heap.size with hl | hl
 ·exact hl
 ·rw [Array.getElem?_eq_none hl] at hc; cases hc
theorem Bd.grow {w w' : World} (h : Bd w w') : ∃ q os, w' = Go.Sort.grow (w.drewN q) os := by
 refine ⟨w'.drawn - w.drawn, w'.heap.extract w.heap.size w'.heap.size, ?_⟩
 have e : w'.heap = w.heap ++ w'.heap.extract w.heap.size w'.heap.size := by
  apply Array.ext_getElem?
  intro i
  rw [Array.getElem?_append]
  split
  ·rename_i hi; exact h.below.block i hi
  ·rename_i hi
   rw [Array.getElem?_extract]
   have := h.below.size
   split
   ·congr 1; omega
   ·rw [Array.getElem?_eq_none (by omega)]
 have h1 := h.below.os
 have h2 := h.below.tape
 have h3 := h.below.output
 have h4 := h.drawn
 cases w' with | mk hp tp dr os out =>
 cases w with | mk hp0 tp0 dr0 os0 out0 =>
 simp only at h1 h2 h3 h4 e
 subst h1 h2 h3
 simp only [Go.Sort.grow, World.drewN, World.mk.injEq, and_true, true_and]
 exact ⟨e, by omega⟩
def cmpN (x y : S54) : Int := if cmpS x.f0 y.f0 = 0 then cmpS x.f1 y.f1 else cmpS x.f0 y.f0
theorem cmpN_c : Cmp cmpN := cmpS_c.lex cmpS_c S54.f0 S54.f1 (fun x y h k => by cases x; cases y; cases h; cases k; rfl)
theorem w64_in (x : Int) (h : -9223372036854775808 ≤ x ∧ x ≤ 9223372036854775807) : wrap64 x = x := by unfold wrap64; omega
theorem compS_f (x y : ByteArray) : cmp_Compare_string.f x y = some (cmpS x y) := by
 unfold cmp_Compare_string.f cmp_isNaN_string.f cmpS
 simp only [bne_self_eq_false, Option.bind_some, Bool.false_eq_true, if_false]
 split
 ·rfl
 ·split <;> rfl
theorem compI_f (x y : Int) : cmp_Compare_int.f x y = some (cmpI x y) := by
 unfold cmp_Compare_int.f cmp_isNaN_int.f cmpI
 simp only [bne_self_eq_false, Option.bind_some, Bool.false_eq_true, if_false]
 split
 ·rfl
 ·split <;> rfl
theorem or_step (k : Nat) (l : List Int) (i : Nat) (hl : l.length ≤ 100) (hi : i < l.length) : cmp_Or_int.l0 (k + 1) 0 l (l.length : Int) (i : Int) = if l[i] = 0 then cmp_Or_int.l0 k 0 l (l.length : Int) ((i + 1 : Nat) : Int) else some l[i] := by
 rw [cmp_Or_int.l0]
 have e : rd l (i : Int) = l[i] := by
  unfold rd
  rw [Int.toNat_natCast, List.getD_eq_getElem?_getD, List.getElem?_eq_getElem hi]
  rfl
 rw [if_pos (by omega), if_pos (by omega), if_pos (by omega), e, w64_in _ (by omega)]
 rfl
theorem or_end (k : Nat) (l : List Int) : cmp_Or_int.l0 (k + 1) 0 l (l.length : Int) (l.length : Int) = some 0 := by
 rw [cmp_Or_int.l0, if_neg (by omega)]
theorem or2_f (a b : Int) : cmp_Or_int.f 3 [a, b] = some (if a = 0 then b else a) := by
 unfold cmp_Or_int.f
 have h0 := or_step 2 [a, b] 0 (by simp) (by simp)
 have h1 := or_step 1 [a, b] 1 (by simp) (by simp)
 have h2 := or_end 0 [a, b]
 refine h0.trans ?_
 by_cases ha : a = 0
 ·rw [if_pos ha, if_pos (show [a, b][0] = 0 from ha)]
  refine h1.trans ?_
  by_cases hb : b = 0
  ·rw [if_pos (show [a, b][1] = 0 from hb), hb]; exact hb ▸ h2
  ·rw [if_neg (show ¬ [a, b][1] = 0 from hb)]; rfl
 ·rw [if_neg ha, if_neg (show ¬ [a, b][0] = 0 from ha)]; rfl
theorem or3_f (a b c : Int) : cmp_Or_int.f 4 [a, b, c] = some (if a = 0 then (if b = 0 then c else b) else a) := by
 unfold cmp_Or_int.f
 have h0 := or_step 3 [a, b, c] 0 (by simp) (by simp)
 have h1 := or_step 2 [a, b, c] 1 (by simp) (by simp)
 have h2 := or_step 1 [a, b, c] 2 (by simp) (by simp)
 have h3 := or_end 0 [a, b, c]
 refine h0.trans ?_
 by_cases ha : a = 0
 ·rw [if_pos ha, if_pos (show [a, b, c][0] = 0 from ha)]
  refine h1.trans ?_
  by_cases hb : b = 0
  ·rw [if_pos hb, if_pos (show [a, b, c][1] = 0 from hb)]
   refine h2.trans ?_
   by_cases hc : c = 0
   ·rw [if_pos (show [a, b, c][2] = 0 from hc), hc]; exact hc ▸ h3
   ·rw [if_neg (show ¬ [a, b, c][2] = 0 from hc)]; rfl
  ·rw [if_neg hb, if_neg (show ¬ [a, b, c][1] = 0 from hb)]; rfl
 ·rw [if_neg ha, if_neg (show ¬ [a, b, c][0] = 0 from ha)]; rfl
theorem cmpS_any (x y : ByteArray) (w : World) : Calls Tryz.prog 60 #[.string x, .string y] w fun e w' => e = .returned (.int .i64 (cmpS x y)) ∧ Bd w w' :=
 (cmp_Compare_string.calls x y _ w (compS_f x y)).mono fun _ _ ⟨h, k⟩ => ⟨h, Bd.of0 k⟩
theorem cmpI_any (x y : Int) (w : World) : Calls Tryz.prog 57 #[.int .i64 x, .int .i64 y] w fun e w' => e = .returned (.int .i64 (cmpI x y)) ∧ Bd w w' :=
 (cmp_Compare_int.calls x y _ w (compI_f x y)).mono fun _ _ ⟨h, k⟩ => ⟨h, Bd.of0 k⟩
theorem nums_row (w : World) (l : List Int) (hl : l.length ≤ 100) : Kd.C (Kd.int .i64) (w.alloc (.cells (l.map fun x => Value.int .i64 x).toArray 3)) (some ⟨w.heap.size, 0, none⟩) l.length l := by
 refine ⟨rfl, by omega, fun _ => ⟨_, rfl, fun j x hx => ⟨[.int .i64 x], rfl, rfl, fun i u hu => ?_⟩⟩⟩
 have e : (⟨w.heap.size, 0, none⟩ : Addr).add (j * (Kd.int .i64).sz + i) = ⟨w.heap.size, j + i, none⟩ := by
  show (⟨w.heap.size, 0, none⟩ : Addr).add (j * 1 + i) = _
  rw [add_at, Nat.zero_add, Nat.mul_one]
 rw [e, blk_cell (Go.heap_alloc_new w _)]
 match i, hu with
 | 0, hu => rw [← hu]; simp [hx]
theorem nums2 (w : World) (a b : Int) : Kd.C (Kd.int .i64) (w.alloc (.cells #[.int .i64 a, .int .i64 b] 3)) (some ⟨w.heap.size, 0, none⟩) 2 [a, b] := nums_row w [a, b] (by simp)
theorem nums3 (w : World) (a b c : Int) : Kd.C (Kd.int .i64) (w.alloc (.cells #[.int .i64 a, .int .i64 b, .int .i64 c] 3)) (some ⟨w.heap.size, 0, none⟩) 3 [a, b, c] := nums_row w [a, b, c] (by simp)
theorem or2_any (a b : Int) (w : World) (A : Option Addr) (h : Kd.C (Kd.int .i64) w A 2 [a, b]) : Calls Tryz.prog 56 #[.slice A 2 2] w fun e w' => e = .returned (.int .i64 (if a = 0 then b else a)) ∧ Bd w w' :=
 (cmp_Or_int.calls 3 A 2 [a, b] _ w h (by simp) (or2_f a b)).mono fun _ _ ⟨h, k⟩ => ⟨h, Bd.of0 k⟩
theorem or3_any (a b c : Int) (w : World) (A : Option Addr) (h : Kd.C (Kd.int .i64) w A 3 [a, b, c]) : Calls Tryz.prog 56 #[.slice A 3 3] w fun e w' => e = .returned (.int .i64 (if a = 0 then (if b = 0 then c else b) else a)) ∧ Bd w w' :=
 (cmp_Or_int.calls 4 A 3 [a, b, c] _ w h (by simp) (or3_f a b c)).mono fun _ _ ⟨h, k⟩ => ⟨h, Bd.of0 k⟩
theorem box1 (w : World) (o1 o2 : Obj) : ((w.alloc o1).alloc o2).heap[w.heap.size + 1]? = some o2 := by
 have := Go.heap_alloc_new (w.alloc o1) o2
 simpa using this
theorem box0 (w : World) (o1 o2 : Obj) : ((w.alloc o1).alloc o2).heap[w.heap.size]? = some o1 :=
 blk_alloc (Go.heap_alloc_new w o1) o2
def T_record_label_1 : Bool × List (List Nat × List Nat) := (true, [([], []), ([0], [0]), ([], []), ([2], [2]), ([1, 3], [1, 3]), ([], []), ([5], [5]), ([], []), ([7], [7]), ([6, 8, 4], [6, 8]), ([4, 9], [4, 9]), ([10, 9], [10]), ([11, 11, 0, 1, 2, 3, 4, 5, 6, 7, 8, 9, 10, 11], [11])])
def B_record_label_1 : List Nat := [0, 1, 0, 4, 15, 0, 32, 0, 128, 511, 1023, 2047, 4095]
theorem tab_record_label_1 : rtab .any (opsOf Tryz.f59 1) = T_record_label_1 := by kernel_rfl
theorem bits_record_label_1 : waitsOk T_record_label_1.2 B_record_label_1 = true := by kernel_rfl
set_option maxRecDepth 20000 in
set_option maxHeartbeats 1000000 in
theorem label_any (x y : S54) (w : World) : Calls Tryz.prog 59 #[.agg #[.string x.f0, .string x.f1], .agg #[.string y.f0, .string y.f1]] w fun e w' => e = .returned (.int .i64 (cmpN x y)) ∧ Bd w w' := by
 obtain ⟨x0, x1⟩ := x
 obtain ⟨y0, y1⟩ := y
 dsimp only
 obtain ⟨q, hq⟩ : ∃ q, q = cmpN ⟨x0, x1⟩ ⟨y0, y1⟩ := ⟨_, rfl⟩
 rw [← hq]
 have HOr : Aside0 (∀ W A, Kd.C (Kd.int .i64) W A 2 [cmpS x0 y0, cmpS x1 y1] → Calls Tryz.prog 56 #[.slice A 2 2] W fun e w' => e = .returned (.int .i64 q) ∧ Bd W w') := ⟨fun W A h => by rw [hq]; exact or2_any _ _ W A h⟩
 clear hq
 obtain ⟨W, hW⟩ : ∃ W, W = (w.alloc (.cells #[.string x0, .string x1] 54)).alloc (.cells #[.string y0, .string y1] 54) := ⟨_, rfl⟩
 have HB : Aside0 (Bd w W) := ⟨by rw [hW]; exact ((Bd.refl w).alloc _).alloc _⟩
 have K0 : Aside0 (W.heap[w.heap.size]? = some (.cells #[.string x0, .string x1] 54)) := ⟨by rw [hW]; exact box0 w _ _⟩
 have K1 : Aside0 (W.heap[w.heap.size + 1]? = some (.cells #[.string y0, .string y1] 54)) := ⟨by rw [hW]; exact box1 w _ _⟩
 obtain ⟨j, hj⟩ : ∃ j, j = w.heap.size := ⟨_, rfl⟩
 rw [← hj] at K0 K1
 have X0 : Aside0 (W.cell? ⟨j, 0, none⟩ = some (.string x0)) := ⟨blk_cell K0.out 0⟩
 have X1 : Aside0 (W.cell? ⟨j, 1, none⟩ = some (.string x1)) := ⟨blk_cell K0.out 1⟩
 have Y0 : Aside0 (W.cell? ⟨j + 1, 0, none⟩ = some (.string y0)) := ⟨blk_cell K1.out 0⟩
 have Y1 : Aside0 (W.cell? ⟨j + 1, 1, none⟩ = some (.string y1)) := ⟨blk_cell K1.out 1⟩
 have HW := Aside0.mk hW
 have HJ := Aside0.mk hj
 clear K0 K1 hW hj
 go_enter Tryz.func59, Tryz.ntmps59
 go_wp2_with fail
 try rw [← HW.out]
 try rw [← HJ.out]
 clear HW HJ
 refine start_ (n := 13) (S := fun x_ => Bd W x_) (ds := []) #[false, false, false, false, false, false, false, false, false, false, false, false, false] (by kernel_rfl) rfl rfl (Bd.drew (Bd.refl _)) (fun hHeld => ?_)
 refine with_tabW tab_record_label_1 bits_record_label_1 (fun HT_ HW_ => ?_)
 have HB := Aside0.mk (Bd.drew HB.out)
 change Aside0 (Bd _ (World.drew W)) at HB
 change Bd _ (World.drew W) at hHeld
 have hSz : (World.drew W).heap.size = W.heap.size := rfl
 have X0 := Aside0.mk (show (World.drew W).cell? ⟨j, 0, none⟩ = _ from X0.out)
 have X1 := Aside0.mk (show (World.drew W).cell? ⟨j, 1, none⟩ = _ from X1.out)
 have Y0 := Aside0.mk (show (World.drew W).cell? ⟨j + 1, 0, none⟩ = _ from Y0.out)
 have Y1 := Aside0.mk (show (World.drew W).cell? ⟨j + 1, 1, none⟩ = _ from Y1.out)
 refine wpAnyLast_str (S' := fun x_ => Bd (World.drew W) x_) (fun x_ hx_ => Bd.trans hHeld hx_) (Bd.refl _) ?_
 clear hHeld hSz
 generalize World.drew W = Wd at *
 have HS := Aside0.mk (show Bd Wd Wd from Bd.refl Wd)
 refine pure_ (i := 0) (N := (some 5)) (v := ?_) (a' := ?_) #[true, false, false, false, false, false, false, false, false, false, false, false, false] rfl rfl (any_of HT_.out (by kernel_rfl)) (fun _ _ _ h => h) (Or.inl ⟨by rfl, ?_⟩) ?_ ?_
 rotate_left
 ·intro w_
  go_simp
  try with_reducible rfl
 rotate_left
 ·simp only [Act.put, List.setIfInBounds_toArray, List.set_cons_zero, List.set_cons_succ, i64_w, i32_w]
  rfl
 refine pure_ (i := 2) (N := (some 7)) (v := ?_) (a' := ?_) #[true, false, true, false, false, false, false, false, false, false, false, false, false] rfl rfl (any_of HT_.out (by kernel_rfl)) (fun _ _ _ h => h) (Or.inl ⟨by rfl, ?_⟩) ?_ ?_
 rotate_left
 ·intro w_
  go_simp
  try with_reducible rfl
 rotate_left
 ·simp only [Act.put, List.setIfInBounds_toArray, List.set_cons_zero, List.set_cons_succ, i64_w, i32_w]
  rfl
 refine pure_ (i := 5) (N := (some 10)) (v := ?_) (a' := ?_) #[true, false, true, false, false, true, false, false, false, false, false, false, false] rfl rfl (any_of HT_.out (by kernel_rfl)) (fun _ _ _ h => h) (Or.inl ⟨by rfl, ?_⟩) ?_ ?_
 rotate_left
 ·intro w_
  go_simp
  try with_reducible rfl
 rotate_left
 ·simp only [Act.put, List.setIfInBounds_toArray, List.set_cons_zero, List.set_cons_succ, i64_w, i32_w]
  rfl
 refine pure_ (i := 7) (N := (some 12)) (v := ?_) (a' := ?_) #[true, false, true, false, false, true, false, true, false, false, false, false, false] rfl rfl (any_of HT_.out (by kernel_rfl)) (fun _ _ _ h => h) (Or.inl ⟨by rfl, ?_⟩) ?_ ?_
 rotate_left
 ·intro w_
  go_simp
  try with_reducible rfl
 rotate_left
 ·simp only [Act.put, List.setIfInBounds_toArray, List.set_cons_zero, List.set_cons_succ, i64_w, i32_w]
  rfl
 refine take_ (i := 1) (N := (some 6)) (v := ?_) (a' := ?_) #[true, true, true, false, false, true, false, true, false, false, false, false, false] rfl rfl (take_ofW HT_.out HW_.out (by kernel_rfl)) (fun _ _ _ h => h) (Or.inl ⟨by rfl, ?_⟩) (Bd.refl _) ?_ ?_
 rotate_left
 ·intro Wx hWx
  have hc := hWx.cell X0.out
  go_simp
  try with_reducible rfl
 rotate_left
 ·simp only [Act.put, List.setIfInBounds_toArray, List.set_cons_zero, List.set_cons_succ, i64_w, i32_w]
  rfl
 refine take_ (i := 3) (N := (some 8)) (v := ?_) (a' := ?_) #[true, true, true, true, false, true, false, true, false, false, false, false, false] rfl rfl (take_ofW HT_.out HW_.out (by kernel_rfl)) (fun _ _ _ h => h) (Or.inl ⟨by rfl, ?_⟩) (Bd.refl _) ?_ ?_
 rotate_left
 ·intro Wx hWx
  have hc := hWx.cell Y0.out
  go_simp
  try with_reducible rfl
 rotate_left
 ·simp only [Act.put, List.setIfInBounds_toArray, List.set_cons_zero, List.set_cons_succ, i64_w, i32_w]
  rfl
 refine take_ (i := 6) (N := (some 11)) (v := ?_) (a' := ?_) #[true, true, true, true, false, true, true, true, false, false, false, false, false] rfl rfl (take_ofW HT_.out HW_.out (by kernel_rfl)) (fun _ _ _ h => h) (Or.inl ⟨by rfl, ?_⟩) (Bd.refl _) ?_ ?_
 rotate_left
 ·intro Wx hWx
  have hc := hWx.cell X1.out
  go_simp
  try with_reducible rfl
 rotate_left
 ·simp only [Act.put, List.setIfInBounds_toArray, List.set_cons_zero, List.set_cons_succ, i64_w, i32_w]
  rfl
 refine take_ (i := 8) (N := (some 13)) (v := ?_) (a' := ?_) #[true, true, true, true, false, true, true, true, true, false, false, false, false] rfl rfl (take_ofW HT_.out HW_.out (by kernel_rfl)) (fun _ _ _ h => h) (Or.inl ⟨by rfl, ?_⟩) (Bd.refl _) ?_ ?_
 rotate_left
 ·intro Wx hWx
  have hc := hWx.cell Y1.out
  go_simp
  try with_reducible rfl
 rotate_left
 ·simp only [Act.put, List.setIfInBounds_toArray, List.set_cons_zero, List.set_cons_succ, i64_w, i32_w]
  rfl
 refine one_ (i := 4) (N := (some 9)) #[true, true, true, true, true, true, true, true, true, false, false, false, false] rfl rfl (one_of HT_.out (by kernel_rfl)) (by decide) (fun K hK => ?_)
 refine goes_ Tryz.func60 (by kernel_rfl) rfl #[.string x0, .string y0] (by rfl) rfl rfl (by (try simp only [List.map_toArray, List.map_cons, List.map_nil]); first | done | rfl) ?_
 refine (cmpS_any x0 y0 _).mono ?_
 rintro e w1_4 ⟨rfl, hd_⟩
 refine ⟨_, rfl, ?_⟩
 have hb_ : Bd Wd w1_4 := hd_
 have HB := Aside0.mk (Bd.trans HB.out hb_)
 refine hK.out _ _ hb_ (fun hHeld => ?_)
 clear hK K
 refine wpAnyLast_str (S' := fun x_ => Bd w1_4 x_) (fun x_ hx_ => Bd.trans hHeld hx_) (Bd.refl _) ?_
 clear hHeld
 (try clear hb)
 clear hb_
 have HS := Aside0.mk (show Bd w1_4 w1_4 from Bd.refl w1_4)
 refine norm_ (a' := ?_) ?_ ?_
 rotate_left
 ·show Act.put _ (some 9) _ = _
  simp only [Act.put, List.setIfInBounds_toArray, List.set_cons_zero, List.set_cons_succ, i64_w, i32_w]
  rfl
 refine one_ (i := 9) (N := (some 14)) #[true, true, true, true, true, true, true, true, true, true, false, false, false] rfl rfl (one_of HT_.out (by kernel_rfl)) (by decide) (fun K hK => ?_)
 refine goes_ Tryz.func60 (by kernel_rfl) rfl #[.string x1, .string y1] (by rfl) rfl rfl (by (try simp only [List.map_toArray, List.map_cons, List.map_nil]); first | done | rfl) ?_
 refine (cmpS_any x1 y1 _).mono ?_
 rintro e w1_9 ⟨rfl, hd_⟩
 refine ⟨_, rfl, ?_⟩
 have hb_ : Bd w1_4 w1_9 := hd_
 have HB := Aside0.mk (Bd.trans HB.out hb_)
 refine hK.out _ _ hb_ (fun hHeld => ?_)
 clear hK K
 refine wpAnyLast_str (S' := fun x_ => Bd w1_9 x_) (fun x_ hx_ => Bd.trans hHeld hx_) (Bd.refl _) ?_
 clear hHeld
 (try clear hb)
 clear hb_
 have HS := Aside0.mk (show Bd w1_9 w1_9 from Bd.refl w1_9)
 refine norm_ (a' := ?_) ?_ ?_
 rotate_left
 ·show Act.put _ (some 14) _ = _
  simp only [Act.put, List.setIfInBounds_toArray, List.set_cons_zero, List.set_cons_succ, i64_w, i32_w]
  rfl
 refine one_ (i := 10) (N := (some 15)) #[true, true, true, true, true, true, true, true, true, true, true, false, false] rfl rfl (one_of HT_.out (by kernel_rfl)) (by decide) (fun K hK => ?_)
 refine value_ (w1 := ?_) (v := ?_) (by rfl) rfl ?_ ?_
 rotate_left 2
 ·go_simp
  constructor
  ·rfl
  ·rfl
 have hb : Bd w1_9 (w1_9.alloc (.cells #[.int .i64 (cmpS x0 y0), .int .i64 (cmpS x1 y1)] 3)) := Bd.alloc (Bd.refl _) _
 have HO := Aside0.mk (nums2 w1_9 (cmpS x0 y0) (cmpS x1 y1))
 have hb_ : Bd w1_9 (w1_9.alloc (.cells #[.int .i64 (cmpS x0 y0), .int .i64 (cmpS x1 y1)] 3)) := hb
 have HB := Aside0.mk (Bd.trans HB.out hb_)
 refine hK.out _ _ hb_ (fun hHeld => ?_)
 clear hK K
 refine wpAnyLast_str (S' := fun x_ => Bd (w1_9.alloc (.cells #[.int .i64 (cmpS x0 y0), .int .i64 (cmpS x1 y1)] 3)) x_) (fun x_ hx_ => Bd.trans hHeld hx_) (Bd.refl _) ?_
 clear hHeld
 (try clear hb)
 clear hb_
 generalize (w1_9.alloc (.cells #[.int .i64 (cmpS x0 y0), .int .i64 (cmpS x1 y1)] 3)) = w1_10 at *
 have HS := Aside0.mk (show Bd w1_10 w1_10 from Bd.refl w1_10)
 refine norm_ (a' := ?_) ?_ ?_
 rotate_left
 ·show Act.put _ (some 15) _ = _
  simp only [Act.put, List.setIfInBounds_toArray, List.set_cons_zero, List.set_cons_succ, i64_w, i32_w]
  rfl
 refine one_ (i := 11) (N := (some 16)) #[true, true, true, true, true, true, true, true, true, true, true, true, false] rfl rfl (one_of HT_.out (by kernel_rfl)) (by decide) (fun K hK => ?_)
 refine goes_ Tryz.func56 (by kernel_rfl) rfl #[.slice (some ⟨_, 0, none⟩) 2 2] (by rfl) rfl rfl (by (try simp only [List.map_toArray, List.map_cons, List.map_nil]); first | done | rfl) ?_
 refine (HOr.out _ _ HO.out).mono ?_
 rintro e w1_11 ⟨rfl, hd_⟩
 refine ⟨_, rfl, ?_⟩
 have hb_ : Bd w1_10 w1_11 := hd_
 have HB := Aside0.mk (Bd.trans HB.out hb_)
 refine hK.out _ _ hb_ (fun hHeld => ?_)
 clear hK K
 refine wpAnyLast_str (S' := fun x_ => Bd w1_11 x_) (fun x_ hx_ => Bd.trans hHeld hx_) (Bd.refl _) ?_
 clear hHeld
 (try clear hb)
 clear hb_
 have HS := Aside0.mk (show Bd w1_11 w1_11 from Bd.refl w1_11)
 refine norm_ (a' := ?_) ?_ ?_
 rotate_left
 ·show Act.put _ (some 16) _ = _
  simp only [Act.put, List.setIfInBounds_toArray, List.set_cons_zero, List.set_cons_succ, i64_w, i32_w]
  rfl
 refine pure_ (i := 12) (N := (some 4)) (v := ?_) (a' := ?_) #[true, true, true, true, true, true, true, true, true, true, true, true, true] rfl rfl (any_of HT_.out (by kernel_rfl)) (fun _ _ _ h => h) (Or.inl ⟨by rfl, ?_⟩) ?_ ?_
 rotate_left
 ·intro w_
  go_simp
  try with_reducible rfl
 rotate_left
 ·simp only [Act.put, List.setIfInBounds_toArray, List.set_cons_zero, List.set_cons_succ, i64_w, i32_w]
  rfl
 refine done_ (done_of HT_.out (by kernel_rfl)) ?_
 go_wp2_with fail
 go_ret
 exact ⟨rfl, HB.out⟩
theorem cmpR_drop (xs ys : List S54) (i : Nat) (hx : i < xs.length) (hy : i < ys.length) : cmpR cmpN (xs.drop i) (ys.drop i) = if cmpN xs[i] ys[i] = 0 then cmpR cmpN (xs.drop (i + 1)) (ys.drop (i + 1)) else cmpN xs[i] ys[i] := by
 rw [List.drop_eq_getElem_cons hx, List.drop_eq_getElem_cons hy]
 rfl
theorem at47 {xs : List S54} {j : Nat} (h : j < xs.length) : rd_T54 xs (j : Int) = xs[j] := by
 unfold rd_T54
 rw [Int.toNat_natCast, List.getD_eq_getElem?_getD, List.getElem?_eq_getElem h]
 rfl
set_option maxRecDepth 20000 in
set_option maxHeartbeats 2000000 in
theorem compareF (xs ys : List S54) (A B : Option Addr) (c c' : Nat) (w : World) (hx : Kd.C k54 w A xs.length xs) (hy : Kd.C k54 w B ys.length ys) (hxm : xs.length ≤ 100000) (hym : ys.length ≤ 100000) :
  Calls Tryz.prog 58 #[.slice A xs.length c, .slice B ys.length c', .func (.func 59) #[] #[]] w fun e w' => e = .returned (.int .i64 (cmpR cmpN xs ys)) ∧ Bd w w' := by
 have HX := Aside0.mk hx
 have HY := Aside0.mk hy
 have HM := Aside0.mk hxm
 have HM2 := Aside0.mk hym
 have eg : ∀ args w, (callFunc 59 args).run Tryz.prog w = .ok (.enter 59 args) w := enters_of Tryz.func59 (by kernel_rfl) rfl
 clear hx hy hxm hym
 go_enter Tryz.func58, Tryz.ntmps58
 go_wp2
 go_loopw [13] (fun t13 wr => ∃ i : Nat, i ≤ xs.length ∧ i ≤ ys.length ∧ t13 = .int .i64 (i : Int) ∧ Aside0 (Bd w wr) ∧ Aside0 (cmpR cmpN (xs.drop i) (ys.drop i) = cmpR cmpN xs ys)) (fun t13 _ => xs.length - (intOf t13).toNat)
 case atStart => exact ⟨0, Nat.zero_le _, Nat.zero_le _, rfl, ⟨Bd.refl w⟩, ⟨rfl⟩⟩
 case round =>
  obtain ⟨i, hix, hiy, rfl, HB, HE⟩ := hrel
  by_cases hlt : i < xs.length
  ·have d1 : decide (i < xs.length) = true := decide_eq_true hlt
   obtain ⟨ad, hA, k0, k1⟩ := at_T54 (Kd.C_below HX.out HB.out.below) (i : Int) (by omega) (by omega)
   subst hA
   rw [Int.toNat_natCast] at k0 k1
   rw [at47 hlt] at k0 k1
   by_cases hlt2 : i < ys.length
   ·have d2 : decide (ys.length ≤ i) = false := decide_eq_false (by omega)
    obtain ⟨ad2, hB2, m0, m1⟩ := at_T54 (Kd.C_below HY.out (below_alloc HB.out.below (.cells #[.string (xs[i]).f0, .string (xs[i]).f1] 54))) (i : Int) (by omega) (by omega)
    subst hB2
    rw [Int.toNat_natCast] at m0 m1
    rw [at47 hlt2] at m0 m1
    have HD := Aside0.mk (cmpR_drop xs ys i hlt hlt2)
    obtain ⟨x, hxe⟩ : ∃ x, x = xs[i] := ⟨_, rfl⟩
    obtain ⟨y, hye⟩ : ∃ y, y = ys[i] := ⟨_, rfl⟩
    rw [← hxe] at k0 k1 m0 m1 HD
    rw [← hye] at m0 m1 HD
    obtain ⟨x0, x1⟩ := x
    obtain ⟨y0, y1⟩ := y
    clear hxe hye
    dsimp only at k0 k1 m0 m1
    have HLb := fun V => Aside0.mk (label_any ⟨x0, x1⟩ ⟨y0, y1⟩ V)
    obtain ⟨q, hq⟩ : ∃ q, q = cmpN ⟨x0, x1⟩ ⟨y0, y1⟩ := ⟨_, rfl⟩
    rw [← hq] at HD HLb
    clear hq
    have Hlt := Aside0.mk (And.intro hlt hlt2)
    clear hix hiy
    by_cases hq0 : q = 0
    ·subst hq0
     go_wp2_with (go_at_fn 59; refine ((HLb _).out).mono ?_; rintro e w1 ⟨rfl, hb1⟩; have HB1 := Aside0.mk (Bd.trans (Bd.alloc (Bd.alloc HB.out _) _) hb1); clear hb1)
     go_roundw
     case rel =>
      have h1 := Hlt.out
      have h2 := HM.out
      refine ⟨i + 1, by omega, by omega, by rw [w64_in _ (by omega)]; rfl, HB1, ⟨?_⟩⟩
      rw [← HE.out, HD.out]
      exact (if_pos trivial).symm
     case measure => have h1 := Hlt.out; have h2 := HM.out; rw [w64_in _ (by omega)]; simp [intOf]; omega
    ·have d3 : (q != 0) = true := by simpa using hq0
     go_wp2_with (go_at_fn 59; refine ((HLb _).out).mono ?_; rintro e w1 ⟨rfl, hb1⟩; have HB1 := Aside0.mk (Bd.trans (Bd.alloc (Bd.alloc HB.out _) _) hb1); clear hb1)
     go_ret
     refine ⟨?_, HB1.out⟩
     rw [← HE.out, HD.out, if_neg hq0]
     rfl
   ·have d2 : decide (ys.length ≤ i) = true := decide_eq_true (by omega)
    have he : cmpR cmpN (xs.drop i) (ys.drop i) = 1 := by
     rw [List.drop_eq_getElem_cons hlt, (List.drop_eq_nil_of_le (by omega) : ys.drop i = [])]
     rfl
    have HE2 := Aside0.mk (HE.out.symm.trans he)
    obtain ⟨x, hxe⟩ : ∃ x, x = xs[i] := ⟨_, rfl⟩
    rw [← hxe] at k0 k1
    obtain ⟨x0, x1⟩ := x
    dsimp only at k0 k1
    clear hxe he HE hlt2 hix hiy
    go_wp2
    go_ret
    exact ⟨by rw [HE2.out]; rfl, Bd.alloc HB.out _⟩
  ·have d1 : decide (i < xs.length) = false := decide_eq_false hlt
   have hi : i = xs.length := by omega
   by_cases hlt2 : xs.length < ys.length
   ·have d2 : decide (xs.length < ys.length) = true := decide_eq_true hlt2
    have he : cmpR cmpN (xs.drop i) (ys.drop i) = -1 := by
     rw [List.drop_eq_getElem_cons (show i < ys.length by omega), (List.drop_eq_nil_of_le (by omega) : xs.drop i = [])]
     rfl
    have HE2 := Aside0.mk (HE.out.symm.trans he)
    clear he HE hlt hlt2 hix hiy hi
    go_wp2
    go_ret
    exact ⟨by rw [HE2.out]; rfl, HB.out⟩
   ·have d2 : decide (xs.length < ys.length) = false := decide_eq_false hlt2
    have he : cmpR cmpN (xs.drop i) (ys.drop i) = 0 := by
     rw [List.drop_eq_nil_of_le (by omega), List.drop_eq_nil_of_le (by omega)]
     rfl
    have HE2 := Aside0.mk (HE.out.symm.trans he)
    clear he HE hlt hlt2 hix hiy hi
    go_wp2
    go_ret
    exact ⟨by rw [HE2.out]; rfl, HB.out⟩
structure Ent where
 at_ : Int
 A : Option Addr
 c : Nat
 ls : List S54
 line : ByteArray
structure Key where
 at_ : Int
 ls : List S54
 line : ByteArray
def Ent.key (x : Ent) : Key := ⟨x.at_, x.ls, x.line⟩
def Ent.cells (x : Ent) : List Value := [.int .i64 x.at_, .slice x.A x.ls.length x.c, .string x.line]
def Ent.val (x : Ent) : Value := .agg #[.int .i64 x.at_, .slice x.A x.ls.length x.c, .string x.line]
structure Ent.In (x : Ent) (w : World) : Prop where
 lies : Kd.C k54 w x.A x.ls.length x.ls
 cap : x.ls.length ≤ x.c
 few : x.ls.length ≤ 100000
def cmpK2 (x y : List S54 × ByteArray) : Int := if cmpR cmpN x.1 y.1 = 0 then cmpS x.2 y.2 else cmpR cmpN x.1 y.1
def cmpE (x y : Key) : Int := if cmpI x.at_ y.at_ = 0 then (if cmpR cmpN x.ls y.ls = 0 then cmpS x.line y.line else cmpR cmpN x.ls y.ls) else cmpI x.at_ y.at_
theorem cmpK2_c : Cmp cmpK2 := (cmpN_c.row).lex cmpS_c Prod.fst Prod.snd (fun x y h k => by cases x; cases y; cases h; cases k; rfl)
theorem cmpE_c : Cmp cmpE := cmpI_c.lex cmpK2_c Key.at_ (fun x : Key => (x.ls, x.line)) (fun x y h k => by cases x; cases y; cases h; cases k; rfl)
theorem Ent.In.bd {x : Ent} {w w' : World} (h : x.In w) (k : Bd w w') : x.In w' := ⟨Kd.C_below h.lies k.below, h.cap, h.few⟩
def T_record_Compare_1 : Bool × List (List Nat × List Nat) := (true, [([], []), ([0], [0]), ([], []), ([2], [2]), ([1, 3], [1, 3]), ([], []), ([5], [5]), ([], []), ([7], [7]), ([6, 8, 4], [6, 8]), ([], []), ([10], [10]), ([], []), ([12], [12]), ([11, 13, 9], [11, 13]), ([4, 9, 14], [4, 9, 14]), ([15, 14], [15]), ([16, 16, 0, 1, 2, 3, 4, 5, 6, 7, 8, 9, 10, 11, 12, 13, 14, 15, 16], [16])])
def B_record_Compare_1 : List Nat := [0, 1, 0, 4, 15, 0, 32, 0, 128, 511, 0, 1024, 0, 4096, 16383, 32767, 65535, 131071]
theorem tab_record_Compare_1 : rtab .any (opsOf Tryz.f39 1) = T_record_Compare_1 := by kernel_rfl
theorem bits_record_Compare_1 : waitsOk T_record_Compare_1.2 B_record_Compare_1 = true := by kernel_rfl
set_option maxRecDepth 20000 in
set_option maxHeartbeats 1000000 in
theorem compare_any (x y : Ent) (w : World) (hx : x.In w) (hy : y.In w) : Calls Tryz.prog 39 #[x.val, y.val] w fun e w' => e = .returned (.int .i64 (cmpE x.key y.key)) ∧ Bd w w' := by
 have HX := Aside0.mk hx
 have HY := Aside0.mk hy
 clear hx hy
 obtain ⟨x0, xA, xc, xl, x2⟩ := x
 obtain ⟨y0, yA, yc, yl, y2⟩ := y
 unfold Ent.val
 dsimp only
 obtain ⟨q, hq⟩ : ∃ q, q = cmpE (Ent.key ⟨x0, xA, xc, xl, x2⟩) (Ent.key ⟨y0, yA, yc, yl, y2⟩) := ⟨_, rfl⟩
 rw [← hq]
 have HOr : Aside0 (∀ W A, Kd.C (Kd.int .i64) W A 3 [cmpI x0 y0, cmpR cmpN xl yl, cmpS x2 y2] → Calls Tryz.prog 56 #[.slice A 3 3] W fun e w' => e = .returned (.int .i64 q) ∧ Bd W w') := ⟨fun W A h => by rw [hq]; exact or3_any _ _ _ W A h⟩
 clear hq
 obtain ⟨W, hW⟩ : ∃ W, W = (w.alloc (.cells #[.int .i64 x0, .slice xA xl.length xc, .string x2] 26)).alloc (.cells #[.int .i64 y0, .slice yA yl.length yc, .string y2] 26) := ⟨_, rfl⟩
 have HB : Aside0 (Bd w W) := ⟨by rw [hW]; exact ((Bd.refl w).alloc _).alloc _⟩
 have HX := Aside0.mk (HX.out.bd HB.out)
 have HY := Aside0.mk (HY.out.bd HB.out)
 have K0 : Aside0 (W.heap[w.heap.size]? = some (.cells #[.int .i64 x0, .slice xA xl.length xc, .string x2] 26)) := ⟨by rw [hW]; exact box0 w _ _⟩
 have K1 : Aside0 (W.heap[w.heap.size + 1]? = some (.cells #[.int .i64 y0, .slice yA yl.length yc, .string y2] 26)) := ⟨by rw [hW]; exact box1 w _ _⟩
 obtain ⟨j, hj⟩ : ∃ j, j = w.heap.size := ⟨_, rfl⟩
 rw [← hj] at K0 K1
 have X0 : Aside0 (W.cell? ⟨j, 0, none⟩ = some (.int .i64 x0)) := ⟨blk_cell K0.out 0⟩
 have X1 : Aside0 (W.cell? ⟨j, 1, none⟩ = some (.slice xA xl.length xc)) := ⟨blk_cell K0.out 1⟩
 have X2 : Aside0 (W.cell? ⟨j, 2, none⟩ = some (.string x2)) := ⟨blk_cell K0.out 2⟩
 have Y0 : Aside0 (W.cell? ⟨j + 1, 0, none⟩ = some (.int .i64 y0)) := ⟨blk_cell K1.out 0⟩
 have Y1 : Aside0 (W.cell? ⟨j + 1, 1, none⟩ = some (.slice yA yl.length yc)) := ⟨blk_cell K1.out 1⟩
 have Y2 : Aside0 (W.cell? ⟨j + 1, 2, none⟩ = some (.string y2)) := ⟨blk_cell K1.out 2⟩
 have HW := Aside0.mk hW
 have HJ := Aside0.mk hj
 clear K0 K1 hW hj
 go_enter Tryz.func39, Tryz.ntmps39
 go_wp2_with fail
 try rw [← HW.out]
 try rw [← HJ.out]
 clear HW HJ
 refine start_ (n := 18) (S := fun x_ => Bd W x_) (ds := []) #[false, false, false, false, false, false, false, false, false, false, false, false, false, false, false, false, false, false] (by kernel_rfl) rfl rfl (Bd.drew (Bd.refl _)) (fun hHeld => ?_)
 refine with_tabW tab_record_Compare_1 bits_record_Compare_1 (fun HT_ HW_ => ?_)
 have HB := Aside0.mk (Bd.drew HB.out)
 change Aside0 (Bd _ (World.drew W)) at HB
 change Bd _ (World.drew W) at hHeld
 have hSz : (World.drew W).heap.size = W.heap.size := rfl
 have X0 := Aside0.mk (show (World.drew W).cell? ⟨j, 0, none⟩ = _ from X0.out)
 have X1 := Aside0.mk (show (World.drew W).cell? ⟨j, 1, none⟩ = _ from X1.out)
 have X2 := Aside0.mk (show (World.drew W).cell? ⟨j, 2, none⟩ = _ from X2.out)
 have Y0 := Aside0.mk (show (World.drew W).cell? ⟨j + 1, 0, none⟩ = _ from Y0.out)
 have Y1 := Aside0.mk (show (World.drew W).cell? ⟨j + 1, 1, none⟩ = _ from Y1.out)
 have Y2 := Aside0.mk (show (World.drew W).cell? ⟨j + 1, 2, none⟩ = _ from Y2.out)
 have HX := Aside0.mk (show Ent.In _ (World.drew W) from HX.out.bd ((Bd.refl _).drew))
 have HY := Aside0.mk (show Ent.In _ (World.drew W) from HY.out.bd ((Bd.refl _).drew))
 refine wpAnyLast_str (S' := fun x_ => Bd (World.drew W) x_) (fun x_ hx_ => Bd.trans hHeld hx_) (Bd.refl _) ?_
 clear hHeld hSz
 generalize World.drew W = Wd at *
 have HS := Aside0.mk (show Bd Wd Wd from Bd.refl Wd)
 refine pure_ (i := 0) (N := (some 5)) (v := ?_) (a' := ?_) #[true, false, false, false, false, false, false, false, false, false, false, false, false, false, false, false, false, false] rfl rfl (any_of HT_.out (by kernel_rfl)) (fun _ _ _ h => h) (Or.inl ⟨by rfl, ?_⟩) ?_ ?_
 rotate_left
 ·intro w_
  go_simp
  try with_reducible rfl
 rotate_left
 ·simp only [Act.put, List.setIfInBounds_toArray, List.set_cons_zero, List.set_cons_succ, i64_w, i32_w]
  rfl
 refine pure_ (i := 2) (N := (some 7)) (v := ?_) (a' := ?_) #[true, false, true, false, false, false, false, false, false, false, false, false, false, false, false, false, false, false] rfl rfl (any_of HT_.out (by kernel_rfl)) (fun _ _ _ h => h) (Or.inl ⟨by rfl, ?_⟩) ?_ ?_
 rotate_left
 ·intro w_
  go_simp
  try with_reducible rfl
 rotate_left
 ·simp only [Act.put, List.setIfInBounds_toArray, List.set_cons_zero, List.set_cons_succ, i64_w, i32_w]
  rfl
 refine pure_ (i := 5) (N := (some 10)) (v := ?_) (a' := ?_) #[true, false, true, false, false, true, false, false, false, false, false, false, false, false, false, false, false, false] rfl rfl (any_of HT_.out (by kernel_rfl)) (fun _ _ _ h => h) (Or.inl ⟨by rfl, ?_⟩) ?_ ?_
 rotate_left
 ·intro w_
  go_simp
  try with_reducible rfl
 rotate_left
 ·simp only [Act.put, List.setIfInBounds_toArray, List.set_cons_zero, List.set_cons_succ, i64_w, i32_w]
  rfl
 refine pure_ (i := 7) (N := (some 12)) (v := ?_) (a' := ?_) #[true, false, true, false, false, true, false, true, false, false, false, false, false, false, false, false, false, false] rfl rfl (any_of HT_.out (by kernel_rfl)) (fun _ _ _ h => h) (Or.inl ⟨by rfl, ?_⟩) ?_ ?_
 rotate_left
 ·intro w_
  go_simp
  try with_reducible rfl
 rotate_left
 ·simp only [Act.put, List.setIfInBounds_toArray, List.set_cons_zero, List.set_cons_succ, i64_w, i32_w]
  rfl
 refine pure_ (i := 10) (N := (some 15)) (v := ?_) (a' := ?_) #[true, false, true, false, false, true, false, true, false, false, true, false, false, false, false, false, false, false] rfl rfl (any_of HT_.out (by kernel_rfl)) (fun _ _ _ h => h) (Or.inl ⟨by rfl, ?_⟩) ?_ ?_
 rotate_left
 ·intro w_
  go_simp
  try with_reducible rfl
 rotate_left
 ·simp only [Act.put, List.setIfInBounds_toArray, List.set_cons_zero, List.set_cons_succ, i64_w, i32_w]
  rfl
 refine pure_ (i := 12) (N := (some 17)) (v := ?_) (a' := ?_) #[true, false, true, false, false, true, false, true, false, false, true, false, true, false, false, false, false, false] rfl rfl (any_of HT_.out (by kernel_rfl)) (fun _ _ _ h => h) (Or.inl ⟨by rfl, ?_⟩) ?_ ?_
 rotate_left
 ·intro w_
  go_simp
  try with_reducible rfl
 rotate_left
 ·simp only [Act.put, List.setIfInBounds_toArray, List.set_cons_zero, List.set_cons_succ, i64_w, i32_w]
  rfl
 refine take_ (i := 1) (N := (some 6)) (v := ?_) (a' := ?_) #[true, true, true, false, false, true, false, true, false, false, true, false, true, false, false, false, false, false] rfl rfl (take_ofW HT_.out HW_.out (by kernel_rfl)) (fun _ _ _ h => h) (Or.inl ⟨by rfl, ?_⟩) (Bd.refl _) ?_ ?_
 rotate_left
 ·intro Wx hWx
  have hc := hWx.cell X0.out
  go_simp
  try with_reducible rfl
 rotate_left
 ·simp only [Act.put, List.setIfInBounds_toArray, List.set_cons_zero, List.set_cons_succ, i64_w, i32_w]
  rfl
 refine take_ (i := 3) (N := (some 8)) (v := ?_) (a' := ?_) #[true, true, true, true, false, true, false, true, false, false, true, false, true, false, false, false, false, false] rfl rfl (take_ofW HT_.out HW_.out (by kernel_rfl)) (fun _ _ _ h => h) (Or.inl ⟨by rfl, ?_⟩) (Bd.refl _) ?_ ?_
 rotate_left
 ·intro Wx hWx
  have hc := hWx.cell Y0.out
  go_simp
  try with_reducible rfl
 rotate_left
 ·simp only [Act.put, List.setIfInBounds_toArray, List.set_cons_zero, List.set_cons_succ, i64_w, i32_w]
  rfl
 refine take_ (i := 6) (N := (some 11)) (v := ?_) (a' := ?_) #[true, true, true, true, false, true, true, true, false, false, true, false, true, false, false, false, false, false] rfl rfl (take_ofW HT_.out HW_.out (by kernel_rfl)) (fun _ _ _ h => h) (Or.inl ⟨by rfl, ?_⟩) (Bd.refl _) ?_ ?_
 rotate_left
 ·intro Wx hWx
  have hc := hWx.cell X1.out
  go_simp
  try with_reducible rfl
 rotate_left
 ·simp only [Act.put, List.setIfInBounds_toArray, List.set_cons_zero, List.set_cons_succ, i64_w, i32_w]
  rfl
 refine take_ (i := 8) (N := (some 13)) (v := ?_) (a' := ?_) #[true, true, true, true, false, true, true, true, true, false, true, false, true, false, false, false, false, false] rfl rfl (take_ofW HT_.out HW_.out (by kernel_rfl)) (fun _ _ _ h => h) (Or.inl ⟨by rfl, ?_⟩) (Bd.refl _) ?_ ?_
 rotate_left
 ·intro Wx hWx
  have hc := hWx.cell Y1.out
  go_simp
  try with_reducible rfl
 rotate_left
 ·simp only [Act.put, List.setIfInBounds_toArray, List.set_cons_zero, List.set_cons_succ, i64_w, i32_w]
  rfl
 refine take_ (i := 11) (N := (some 16)) (v := ?_) (a' := ?_) #[true, true, true, true, false, true, true, true, true, false, true, true, true, false, false, false, false, false] rfl rfl (take_ofW HT_.out HW_.out (by kernel_rfl)) (fun _ _ _ h => h) (Or.inl ⟨by rfl, ?_⟩) (Bd.refl _) ?_ ?_
 rotate_left
 ·intro Wx hWx
  have hc := hWx.cell X2.out
  go_simp
  try with_reducible rfl
 rotate_left
 ·simp only [Act.put, List.setIfInBounds_toArray, List.set_cons_zero, List.set_cons_succ, i64_w, i32_w]
  rfl
 refine take_ (i := 13) (N := (some 18)) (v := ?_) (a' := ?_) #[true, true, true, true, false, true, true, true, true, false, true, true, true, true, false, false, false, false] rfl rfl (take_ofW HT_.out HW_.out (by kernel_rfl)) (fun _ _ _ h => h) (Or.inl ⟨by rfl, ?_⟩) (Bd.refl _) ?_ ?_
 rotate_left
 ·intro Wx hWx
  have hc := hWx.cell Y2.out
  go_simp
  try with_reducible rfl
 rotate_left
 ·simp only [Act.put, List.setIfInBounds_toArray, List.set_cons_zero, List.set_cons_succ, i64_w, i32_w]
  rfl
 refine one_ (i := 4) (N := (some 9)) #[true, true, true, true, true, true, true, true, true, false, true, true, true, true, false, false, false, false] rfl rfl (one_of HT_.out (by kernel_rfl)) (by decide) (fun K hK => ?_)
 refine goes_ Tryz.func57 (by kernel_rfl) rfl #[.int .i64 x0, .int .i64 y0] (by rfl) rfl rfl (by (try simp only [List.map_toArray, List.map_cons, List.map_nil]); first | done | rfl) ?_
 refine (cmpI_any x0 y0 _).mono ?_
 rintro e w1_4 ⟨rfl, hd_⟩
 refine ⟨_, rfl, ?_⟩
 have HX := Aside0.mk (HX.out.bd hd_)
 have HY := Aside0.mk (HY.out.bd hd_)
 have hb_ : Bd Wd w1_4 := hd_
 have HB := Aside0.mk (Bd.trans HB.out hb_)
 refine hK.out _ _ hb_ (fun hHeld => ?_)
 clear hK K
 refine wpAnyLast_str (S' := fun x_ => Bd w1_4 x_) (fun x_ hx_ => Bd.trans hHeld hx_) (Bd.refl _) ?_
 clear hHeld
 (try clear hb)
 clear hb_
 have HS := Aside0.mk (show Bd w1_4 w1_4 from Bd.refl w1_4)
 refine norm_ (a' := ?_) ?_ ?_
 rotate_left
 ·show Act.put _ (some 9) _ = _
  simp only [Act.put, List.setIfInBounds_toArray, List.set_cons_zero, List.set_cons_succ, i64_w, i32_w]
  rfl
 refine one_ (i := 9) (N := (some 14)) #[true, true, true, true, true, true, true, true, true, true, true, true, true, true, false, false, false, false] rfl rfl (one_of HT_.out (by kernel_rfl)) (by decide) (fun K hK => ?_)
 refine goes_ Tryz.func58 (by kernel_rfl) rfl #[.slice xA xl.length xc, .slice yA yl.length yc, .func (.func 59) #[] #[]] (by rfl) rfl rfl (by (try simp only [List.map_toArray, List.map_cons, List.map_nil]); first | done | rfl) ?_
 refine (compareF xl yl xA yA xc yc _ HX.out.lies HY.out.lies HX.out.few HY.out.few).mono ?_
 rintro e w1_9 ⟨rfl, hd_⟩
 refine ⟨_, rfl, ?_⟩
 have hb_ : Bd w1_4 w1_9 := hd_
 have HB := Aside0.mk (Bd.trans HB.out hb_)
 refine hK.out _ _ hb_ (fun hHeld => ?_)
 clear hK K
 refine wpAnyLast_str (S' := fun x_ => Bd w1_9 x_) (fun x_ hx_ => Bd.trans hHeld hx_) (Bd.refl _) ?_
 clear hHeld
 (try clear hb)
 clear hb_
 have HS := Aside0.mk (show Bd w1_9 w1_9 from Bd.refl w1_9)
 refine norm_ (a' := ?_) ?_ ?_
 rotate_left
 ·show Act.put _ (some 14) _ = _
  simp only [Act.put, List.setIfInBounds_toArray, List.set_cons_zero, List.set_cons_succ, i64_w, i32_w]
  rfl
 refine one_ (i := 14) (N := (some 19)) #[true, true, true, true, true, true, true, true, true, true, true, true, true, true, true, false, false, false] rfl rfl (one_of HT_.out (by kernel_rfl)) (by decide) (fun K hK => ?_)
 refine goes_ Tryz.func60 (by kernel_rfl) rfl #[.string x2, .string y2] (by rfl) rfl rfl (by (try simp only [List.map_toArray, List.map_cons, List.map_nil]); first | done | rfl) ?_
 refine (cmpS_any x2 y2 _).mono ?_
 rintro e w1_14 ⟨rfl, hd_⟩
 refine ⟨_, rfl, ?_⟩
 have hb_ : Bd w1_9 w1_14 := hd_
 have HB := Aside0.mk (Bd.trans HB.out hb_)
 refine hK.out _ _ hb_ (fun hHeld => ?_)
 clear hK K
 refine wpAnyLast_str (S' := fun x_ => Bd w1_14 x_) (fun x_ hx_ => Bd.trans hHeld hx_) (Bd.refl _) ?_
 clear hHeld
 (try clear hb)
 clear hb_
 have HS := Aside0.mk (show Bd w1_14 w1_14 from Bd.refl w1_14)
 refine norm_ (a' := ?_) ?_ ?_
 rotate_left
 ·show Act.put _ (some 19) _ = _
  simp only [Act.put, List.setIfInBounds_toArray, List.set_cons_zero, List.set_cons_succ, i64_w, i32_w]
  rfl
 refine one_ (i := 15) (N := (some 20)) #[true, true, true, true, true, true, true, true, true, true, true, true, true, true, true, true, false, false] rfl rfl (one_of HT_.out (by kernel_rfl)) (by decide) (fun K hK => ?_)
 refine value_ (w1 := ?_) (v := ?_) (by rfl) rfl ?_ ?_
 rotate_left 2
 ·go_simp
  constructor
  ·rfl
  ·rfl
 have hb : Bd w1_14 (w1_14.alloc (.cells #[.int .i64 (cmpI x0 y0), .int .i64 (cmpR cmpN xl yl), .int .i64 (cmpS x2 y2)] 3)) := Bd.alloc (Bd.refl _) _
 have HO := Aside0.mk (nums3 w1_14 (cmpI x0 y0) (cmpR cmpN xl yl) (cmpS x2 y2))
 have hb_ : Bd w1_14 (w1_14.alloc (.cells #[.int .i64 (cmpI x0 y0), .int .i64 (cmpR cmpN xl yl), .int .i64 (cmpS x2 y2)] 3)) := hb
 have HB := Aside0.mk (Bd.trans HB.out hb_)
 refine hK.out _ _ hb_ (fun hHeld => ?_)
 clear hK K
 refine wpAnyLast_str (S' := fun x_ => Bd (w1_14.alloc (.cells #[.int .i64 (cmpI x0 y0), .int .i64 (cmpR cmpN xl yl), .int .i64 (cmpS x2 y2)] 3)) x_) (fun x_ hx_ => Bd.trans hHeld hx_) (Bd.refl _) ?_
 clear hHeld
 (try clear hb)
 clear hb_
 generalize (w1_14.alloc (.cells #[.int .i64 (cmpI x0 y0), .int .i64 (cmpR cmpN xl yl), .int .i64 (cmpS x2 y2)] 3)) = w1_15 at *
 have HS := Aside0.mk (show Bd w1_15 w1_15 from Bd.refl w1_15)
 refine norm_ (a' := ?_) ?_ ?_
 rotate_left
 ·show Act.put _ (some 20) _ = _
  simp only [Act.put, List.setIfInBounds_toArray, List.set_cons_zero, List.set_cons_succ, i64_w, i32_w]
  rfl
 refine one_ (i := 16) (N := (some 21)) #[true, true, true, true, true, true, true, true, true, true, true, true, true, true, true, true, true, false] rfl rfl (one_of HT_.out (by kernel_rfl)) (by decide) (fun K hK => ?_)
 refine goes_ Tryz.func56 (by kernel_rfl) rfl #[.slice (some ⟨_, 0, none⟩) 3 3] (by rfl) rfl rfl (by (try simp only [List.map_toArray, List.map_cons, List.map_nil]); first | done | rfl) ?_
 refine (HOr.out _ _ HO.out).mono ?_
 rintro e w1_16 ⟨rfl, hd_⟩
 refine ⟨_, rfl, ?_⟩
 have hb_ : Bd w1_15 w1_16 := hd_
 have HB := Aside0.mk (Bd.trans HB.out hb_)
 refine hK.out _ _ hb_ (fun hHeld => ?_)
 clear hK K
 refine wpAnyLast_str (S' := fun x_ => Bd w1_16 x_) (fun x_ hx_ => Bd.trans hHeld hx_) (Bd.refl _) ?_
 clear hHeld
 (try clear hb)
 clear hb_
 have HS := Aside0.mk (show Bd w1_16 w1_16 from Bd.refl w1_16)
 refine norm_ (a' := ?_) ?_ ?_
 rotate_left
 ·show Act.put _ (some 21) _ = _
  simp only [Act.put, List.setIfInBounds_toArray, List.set_cons_zero, List.set_cons_succ, i64_w, i32_w]
  rfl
 refine pure_ (i := 17) (N := (some 4)) (v := ?_) (a' := ?_) #[true, true, true, true, true, true, true, true, true, true, true, true, true, true, true, true, true, true] rfl rfl (any_of HT_.out (by kernel_rfl)) (fun _ _ _ h => h) (Or.inl ⟨by rfl, ?_⟩) ?_ ?_
 rotate_left
 ·intro w_
  go_simp
  try with_reducible rfl
 rotate_left
 ·simp only [Act.put, List.setIfInBounds_toArray, List.set_cons_zero, List.set_cons_succ, i64_w, i32_w]
  rfl
 refine done_ (done_of HT_.out (by kernel_rfl)) ?_
 go_wp2_with fail
 go_ret
 exact ⟨rfl, HB.out⟩
end Go.Proofs.YtpleiklodomgiaaGreatDoor.C
end
section
namespace Go.Proofs.YtpleiklodomgiaaGreatDoor.C
open Go.RowKit Go.Proofs.YtpleiklodomgiaaGreatDoorW.PrintWords Go.Proofs.YtpleiklodomgiaaGreatDoorW.PrintLast Go.Proofs.YtpleiklodomgiaaGreatDoorW.PrintMore Go.Proofs.YtpleiklodomgiaaGreatDoor.B Go.Proofs.YtpleiklodomgiaaGreatDoor.Reg Go.Proofs.YtpleiklodomgiaaGreatDoor.PModelIs Go.Proofs.YtpleiklodomgiaaGreatDoor.CQ
set_option maxRecDepth 20000 in
theorem turned_any (x y : Ent) (w : World) (hx : x.In w) (hy : y.In w) : Calls Tryz.prog 40 #[x.val, y.val] w fun e w' => e = .returned (.int .i64 (cmpE y.key x.key)) ∧ Bd w w' := by
 have HC := Aside0.mk (fun V (h : Bd w V) => compare_any y x V (hy.bd h) (hx.bd h))
 obtain ⟨q, hq⟩ : ∃ q, q = cmpE y.key x.key := ⟨_, rfl⟩
 rw [← hq] at HC ⊢
 clear hx hy hq
 obtain ⟨x0, xA, xc, xl, x2⟩ := x
 obtain ⟨y0, yA, yc, yl, y2⟩ := y
 unfold Ent.val at *
 dsimp only at *
 go_enter Tryz.func40, Tryz.ntmps40
 go_wp2_with (go_at_call 39; refine (HC.out _ (((Bd.refl w).alloc _).alloc _)).mono ?_; rintro e w1 ⟨rfl, hb1⟩; have HB1 := Aside0.mk ((((Bd.refl w).alloc _).alloc _).trans hb1); clear hb1)
 go_ret
 exact ⟨rfl, HB1.out⟩
set_option maxRecDepth 20000 in
theorem same_any (x y : Ent) (w : World) (hx : x.In w) (hy : y.In w) : Calls Tryz.prog 38 #[x.val, y.val] w fun e w' => e = .returned (.bool (cmpE x.key y.key == 0)) ∧ Bd w w' := by
 have HC := Aside0.mk (fun V (h : Bd w V) => compare_any x y V (hx.bd h) (hy.bd h))
 obtain ⟨q, hq⟩ : ∃ q, q = cmpE x.key y.key := ⟨_, rfl⟩
 rw [← hq] at HC ⊢
 clear hx hy hq
 obtain ⟨x0, xA, xc, xl, x2⟩ := x
 obtain ⟨y0, yA, yc, yl, y2⟩ := y
 unfold Ent.val at *
 dsimp only at *
 go_enter Tryz.func38, Tryz.ntmps38
 go_wp2_with (go_at_call 39; refine (HC.out _ (((Bd.refl w).alloc _).alloc _)).mono ?_; rintro e w1 ⟨rfl, hb1⟩; have HB1 := Aside0.mk ((((Bd.refl w).alloc _).alloc _).trans hb1); clear hb1)
 go_ret
 exact ⟨rfl, HB1.out⟩
def EntIn (w : World) := {x : Ent // x.In w}
def Ent.zero : Ent := ⟨0, none, 0, [], ⟨#[]⟩⟩
theorem zero_in (w : World) : Ent.zero.In w := ⟨⟨rfl, Nat.zero_le _, fun h => absurd h (Nat.lt_irrefl 0)⟩, Nat.le_refl _, Nat.zero_le _⟩
instance (w : World) : Inhabited (EntIn w) := ⟨⟨Ent.zero, zero_in w⟩⟩
def enc {w : World} (x : EntIn w) : List Value := x.1.cells
theorem enc_len {w : World} (x : EntIn w) : (enc x).length = 3 := rfl
theorem enc_one {w : World} (x : EntIn w) : ∀ v ∈ enc x, v.oneCell' = true := by
 intro v hv
 unfold enc Ent.cells at hv
 simp only [List.mem_cons, List.not_mem_nil, or_false] at hv
 rcases hv with rfl | rfl | rfl <;> rfl
section
variable {α : Type} [Inhabited α] (eq : α → α → Bool) (d : Array α)
def once : Nat → List α
 | 0 => []
 | m + 1 => if m ≠ 0 ∧ eq d[m]! d[m - 1]! = true then once m else once m ++ [d[m]!]
theorem once_len : ∀ m, (once eq d m).length ≤ m
 | 0 => Nat.le_refl _
 | m + 1 => by
  have := once_len m
  simp only [once]
  split
  ·omega
  ·rw [List.length_append]; simp only [List.length_singleton]; omega
theorem once_all : ∀ m, (∀ j, 0 < j → j < m → eq d[j]! d[j - 1]! = false) → once eq d m = (List.range m).map fun i => d[i]!
 | 0, _ => rfl
 | m + 1, h => by
  have ih := once_all m fun j h0 h1 => h j h0 (by omega)
  simp only [once]
  rw [if_neg, ih, List.range_succ, List.map_append]
  ·rfl
  ·rintro ⟨h0, h1⟩
   rw [h m (by omega) (by omega)] at h1
   cases h1
structure OnceInv (m kk : Nat) (dk : Array α) : Prop where
 len : (once eq d m).length = kk
 lt : kk < m
 size : dk.size = d.size
 low : ∀ i, i < kk → dk[i]! = (once eq d m)[i]!
 high : ∀ i, kk ≤ i → dk[i]! = d[i]!
variable {eq d}
theorem OnceInv.start {k : Nat} (h0 : 0 < k) (h : ∀ j, 0 < j → j < k → eq d[j]! d[j - 1]! = false) (hk : eq d[k]! d[k - 1]! = true) : OnceInv eq d (k + 1) k d where
 len := by
  simp only [once]
  rw [if_pos ⟨by omega, hk⟩, once_all eq d k h]; simp
 lt := Nat.lt_succ_self _
 size := rfl
 low i hi := by
  simp only [once]
  rw [if_pos ⟨by omega, hk⟩, once_all eq d k h, List.getElem!_eq_getElem?_getD, List.getElem?_map, List.getElem?_range hi]
  rfl
 high i hi := rfl
theorem OnceInv.skip {m kk : Nat} {dk : Array α} (h : OnceInv eq d m kk dk) (h0 : m ≠ 0) (hm : eq d[m]! d[m - 1]! = true) : OnceInv eq d (m + 1) kk dk := by
 have e : once eq d (m + 1) = once eq d m := by simp only [once]; rw [if_pos ⟨h0, hm⟩]
 exact ⟨by rw [e]; exact h.len, by have := h.lt; omega, h.size, by rw [e]; exact h.low, h.high⟩
theorem OnceInv.keep {m kk : Nat} {dk : Array α} (h : OnceInv eq d m kk dk) (hlt : m < d.size) (hm : eq d[m]! d[m - 1]! = false) : OnceInv eq d (m + 1) (kk + 1) (dk.setIfInBounds kk d[m]!) := by
 have e : once eq d (m + 1) = once eq d m ++ [d[m]!] := by simp only [once]; rw [if_neg (by rintro ⟨_, h1⟩; rw [hm] at h1; cases h1)]
 have hl := h.len
 have hlt' := h.lt
 have hs := h.size
 refine ⟨by rw [e, List.length_append, hl]; rfl, by omega, by simpa using hs, fun i hi => ?_, fun i hi => ?_⟩
 ·rw [e, List.getElem!_eq_getElem?_getD, getElem!_def, Array.getElem?_setIfInBounds]
  by_cases hik : kk = i
  ·subst hik
   rw [if_pos rfl, if_pos (by omega), List.getElem?_append_right (by omega), hl, Nat.sub_self]
   rfl
  ·rw [if_neg hik, List.getElem?_append_left (by omega)]
   have := h.low i (by omega)
   rw [List.getElem!_eq_getElem?_getD, getElem!_def] at this
   exact this
 ·rw [getElem!_def, Array.getElem?_setIfInBounds, if_neg (by omega), ← getElem!_def]
  exact h.high i (by omega)
end
end Go.Proofs.YtpleiklodomgiaaGreatDoor.C
end
