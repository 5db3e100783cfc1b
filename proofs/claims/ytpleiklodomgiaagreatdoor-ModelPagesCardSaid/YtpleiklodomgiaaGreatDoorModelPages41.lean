import Derived.Lib.IndexMore
import Derived.Lib.ConvBytes
import Derived.Lib.ItoaNum
import Derived.OwnWalk
import Derived.LoopTactic
import Derived.WalkKit
import Derived.KernelRfl
import Derived.OpenShut
import Derived.Test.YtpleiklodomgiaaGreatDoorModelPages36
import Derived.Test.YtpleiklodomgiaaGreatDoorModelPages35
import Derived.Test.YtpleiklodomgiaaGreatDoorModelPages2
import Derived.Test.YtpleiklodomgiaaGreatDoorModelPages3
import Derived.Test.YtpleiklodomgiaaGreatDoorModelPages4
import Derived.Test.YtpleiklodomgiaaGreatDoorModelPages5
import Derived.Test.YtpleiklodomgiaaGreatDoorModelPages6
import Derived.Test.YtpleiklodomgiaaGreatDoorModelPages9
import Derived.Test.YtpleiklodomgiaaGreatDoorModelPages10
import Derived.Test.YtpleiklodomgiaaGreatDoorModelPages11
import Derived.Test.YtpleiklodomgiaaGreatDoorModelPages12
import Derived.Test.YtpleiklodomgiaaGreatDoorModelPages14
import Derived.Test.YtpleiklodomgiaaGreatDoorModelPages7
import Derived.Test.YtpleiklodomgiaaGreatDoorModelPages21
set_option linter.unusedVariables false
set_option linter.unusedSimpArgs false
section
namespace Go.Proofs.YtpleiklodomgiaaGreatDoor.B
end Go.Proofs.YtpleiklodomgiaaGreatDoor.B
namespace Go.Proofs.YtpleiklodomgiaaGreatDoor.Bt
end Go.Proofs.YtpleiklodomgiaaGreatDoor.Bt
namespace Go.Proofs.YtpleiklodomgiaaGreatDoor.CQ
end Go.Proofs.YtpleiklodomgiaaGreatDoor.CQ
namespace Go.Proofs.YtpleiklodomgiaaGreatDoor.N
end Go.Proofs.YtpleiklodomgiaaGreatDoor.N
namespace Go.Proofs.YtpleiklodomgiaaGreatDoor.PModelIs
end Go.Proofs.YtpleiklodomgiaaGreatDoor.PModelIs
namespace Go.Proofs.YtpleiklodomgiaaGreatDoor.Reg
end Go.Proofs.YtpleiklodomgiaaGreatDoor.Reg
namespace Go.Proofs.YtpleiklodomgiaaGreatDoor.Vi
end Go.Proofs.YtpleiklodomgiaaGreatDoor.Vi
namespace Go.Proofs.YtpleiklodomgiaaGreatDoor.N
open Go.RowKit Go.Proofs.YtpleiklodomgiaaGreatDoorW.PrintWords Go.Proofs.YtpleiklodomgiaaGreatDoorW.PrintLast Go.Proofs.YtpleiklodomgiaaGreatDoor.Bt Go.Proofs.YtpleiklodomgiaaGreatDoor.B Go.Proofs.YtpleiklodomgiaaGreatDoor.Vi Go.Proofs.YtpleiklodomgiaaGreatDoor.Reg
end Go.Proofs.YtpleiklodomgiaaGreatDoor.N
namespace Go.Proofs.YtpleiklodomgiaaGreatDoor.C
open Go.RowKit Go.Sort Go.Proofs.YtpleiklodomgiaaGreatDoorW.PrintWords Go.Proofs.YtpleiklodomgiaaGreatDoorW.PrintLast Go.Proofs.YtpleiklodomgiaaGreatDoorW.PrintMore Go.Proofs.YtpleiklodomgiaaGreatDoor.B Go.Proofs.YtpleiklodomgiaaGreatDoor.Reg Go.Proofs.YtpleiklodomgiaaGreatDoor.PModelIs Go.Proofs.YtpleiklodomgiaaGreatDoor.CQ Go.Proofs.YtpleiklodomgiaaGreatDoor.Vi Go.Proofs.YtpleiklodomgiaaGreatDoor.N Go.Proofs.YtpleiklodomgiaaGreatDoor.Bt
def sameK (a b : Key) : Bool := decide (cmpE a b = 0)
theorem sameK_iff (a b : Key) : sameK a b = true ↔ a = b := by unfold sameK; rw [decide_eq_true_iff]; exact cmpE_c.eq0 a b
theorem sameK_refl (a : Key) : sameK a a = true := (sameK_iff a a).2 rfl
theorem same_key (a b : Key) : (!bef a b && !bef b a) = sameK a b := by
 unfold bef sameK
 have an := cmpE_c.anti a b
 rcases cmpE_c.tri a b with h | h | h
 ·rw [h]; rfl
 ·rw [h] at an ⊢
  rw [show cmpE b a = 0 by omega]; rfl
 ·rw [h] at an ⊢
  rw [show cmpE b a = -1 by omega]; rfl
set_option maxRecDepth 20000 in
theorem refSame_any (x y : Ent) (w : World) (hx : x.In w) (hy : y.In w) : Calls Tryz.prog 22 #[x.val, y.val] w fun e w' => e = .returned (.bool (sameK x.key y.key)) ∧ Below w.heap.size w w' := by
 rw [← same_key]
 obtain ⟨W, hW⟩ : ∃ W, W = (w.alloc (.cells #[.int .i64 x.at_, .slice x.A x.ls.length x.c, .string x.line] 26)).alloc (.cells #[.int .i64 y.at_, .slice y.A y.ls.length y.c, .string y.line] 26) := ⟨_, rfl⟩
 obtain ⟨j, hj⟩ : ∃ j, j = w.heap.size := ⟨_, rfl⟩
 have HB : Aside0 (Below w.heap.size w W) := ⟨by rw [hW]; exact below_alloc (below_alloc (Below.refl _ w) _) _⟩
 have XA : Aside0 (BoxE W j x) := ⟨by rw [hW, hj]; exact blk_alloc (Go.heap_alloc_new w _) _⟩
 have XB : Aside0 (BoxE W (j + 1) y) := ⟨by rw [hW, hj]; exact box1 w _ _⟩
 have IA := Aside0.mk (hx.below HB.out)
 have IB := Aside0.mk (hy.below HB.out)
 obtain ⟨p, hp⟩ : ∃ p, p = bef x.key y.key := ⟨_, rfl⟩
 obtain ⟨q, hq⟩ : ∃ q, q = bef y.key x.key := ⟨_, rfl⟩
 rw [← hp, ← hq]
 have HQ0 : Aside0 (∀ V, Below W.heap.size W V → Calls Tryz.prog 33 #[x.val, y.val] V fun e w' => e = .returned (.bool p) ∧ Below V.heap.size V w') := ⟨fun V h => by rw [hp]; exact before_any x y V (IA.out.below h) (IB.out.below h)⟩
 have HQ1 : Aside0 (∀ V, Below W.heap.size W V → Calls Tryz.prog 33 #[y.val, x.val] V fun e w' => e = .returned (.bool q) ∧ Below V.heap.size V w') := ⟨fun V h => by rw [hq]; exact before_any y x V (IB.out.below h) (IA.out.below h)⟩
 have HW := Aside0.mk hW
 have HJ := Aside0.mk hj
 clear hW hj hp hq hx hy IA IB
 unfold Ent.val at HQ0 HQ1 ⊢
 go_enter Tryz.func22, Tryz.ntmps22
 go_wp2_with fail
 try rw [← HW.out]
 try rw [← HJ.out]
 clear HW HJ
 have a0 : W.cell? _ = _ := XA.out.c0
 have a1 : W.cell? _ = _ := XA.out.c1
 have a2 : W.cell? _ = _ := XA.out.c2
 have b0 : W.cell? _ = _ := XB.out.c0
 have b1 : W.cell? _ = _ := XB.out.c1
 have b2 : W.cell? _ = _ := XB.out.c2
 go_wp2_with fail
 clear a0 a1 a2 b0 b1 b2
 ((refine (HQ0.out _ (Below.refl _ _)).mono ?_); rintro e w1 ⟨rfl, hb1⟩)
 have HB := Aside0.mk (below_step HB.out hb1)
 have XA := Aside0.mk (XA.out.below hb1)
 have XB := Aside0.mk (XB.out.below hb1)
 have HQ1 := Aside0.mk (HQ1.out _ hb1)
 clear hb1 HQ0
 cases p with
 | true =>
  go_wp2
  go_ret
  exact ⟨rfl, HB.out⟩
 | false =>
  have a0 : w1.cell? _ = _ := XA.out.c0
  have a1 : w1.cell? _ = _ := XA.out.c1
  have a2 : w1.cell? _ = _ := XA.out.c2
  have b0 : w1.cell? _ = _ := XB.out.c0
  have b1 : w1.cell? _ = _ := XB.out.c1
  have b2 : w1.cell? _ = _ := XB.out.c2
  go_wp2_with fail
  clear a0 a1 a2 b0 b1 b2
  ((refine (HQ1.out).mono ?_); rintro e w2 ⟨rfl, hb1⟩)
  have HB := Aside0.mk (below_step HB.out hb1)
  clear hb1 HQ1 XA XB
  go_wp2
  go_ret
  exact ⟨by simp, HB.out⟩
end Go.Proofs.YtpleiklodomgiaaGreatDoor.C
end
section
namespace Go.Proofs.YtpleiklodomgiaaGreatDoor.C
open Go.RowKit Go.Proofs.YtpleiklodomgiaaGreatDoorW.PrintWords Go.Proofs.YtpleiklodomgiaaGreatDoorW.PrintLast Go.Proofs.YtpleiklodomgiaaGreatDoorW.PrintMore Go.Proofs.YtpleiklodomgiaaGreatDoor.B Go.Proofs.YtpleiklodomgiaaGreatDoor.Reg Go.Proofs.YtpleiklodomgiaaGreatDoor.PModelIs Go.Proofs.YtpleiklodomgiaaGreatDoor.CQ
def aheadO (desc : Bool) (a b : Key) : Bool := decide (cmpO desc a b = -1)
set_option maxRecDepth 20000 in
theorem ahead_any (desc : Bool) (x y : Ent) (w : World) (hx : x.In w) (hy : y.In w) : Calls Tryz.prog 28 #[.bool desc, x.val, y.val] w fun e w' => e = .returned (.bool (aheadO desc x.key y.key)) ∧ Below w.heap.size w w' := by
 obtain ⟨W, hW⟩ : ∃ W, W = (w.alloc (.cells #[.int .i64 x.at_, .slice x.A x.ls.length x.c, .string x.line] 26)).alloc (.cells #[.int .i64 y.at_, .slice y.A y.ls.length y.c, .string y.line] 26) := ⟨_, rfl⟩
 obtain ⟨j, hj⟩ : ∃ j, j = w.heap.size := ⟨_, rfl⟩
 have HB : Aside0 (Below w.heap.size w W) := ⟨by rw [hW]; exact below_alloc (below_alloc (Below.refl _ w) _) _⟩
 have XA : Aside0 (BoxE W j x) := ⟨by rw [hW, hj]; exact blk_alloc (Go.heap_alloc_new w _) _⟩
 have XB : Aside0 (BoxE W (j + 1) y) := ⟨by rw [hW, hj]; exact box1 w _ _⟩
 have IA := Aside0.mk (hx.below HB.out)
 have IB := Aside0.mk (hy.below HB.out)
 have HQ0 : Aside0 (Calls Tryz.prog 33 #[x.val, y.val] W fun e w' => e = .returned (.bool (aheadO false x.key y.key)) ∧ Below W.heap.size W w') := ⟨before_any x y W IA.out IB.out⟩
 have HQ1 : Aside0 (Calls Tryz.prog 33 #[y.val, x.val] W fun e w' => e = .returned (.bool (aheadO true x.key y.key)) ∧ Below W.heap.size W w') := ⟨before_any y x W IB.out IA.out⟩
 have HW := Aside0.mk hW
 have HJ := Aside0.mk hj
 clear hW hj hx hy IA IB
 unfold Ent.val at HQ0 HQ1 ⊢
 go_enter Tryz.func28, Tryz.ntmps28
 have a0 : W.cell? _ = _ := XA.out.c0
 have a1 : W.cell? _ = _ := XA.out.c1
 have a2 : W.cell? _ = _ := XA.out.c2
 have b0 : W.cell? _ = _ := XB.out.c0
 have b1 : W.cell? _ = _ := XB.out.c1
 have b2 : W.cell? _ = _ := XB.out.c2
 cases desc with
 | false =>
  go_wp2_with fail
  try rw [← HW.out]
  try rw [← HJ.out]
  go_wp2_with fail
  ((refine (HQ0.out).mono ?_); rintro e w1 ⟨rfl, hb1⟩)
  have HB := Aside0.mk (below_step HB.out hb1)
  clear hb1 HW HJ a0 a1 a2 b0 b1 b2
  go_wp2
  go_ret
  exact ⟨rfl, HB.out⟩
 | true =>
  go_wp2_with fail
  try rw [← HW.out]
  try rw [← HJ.out]
  go_wp2_with fail
  ((refine (HQ1.out).mono ?_); rintro e w1 ⟨rfl, hb1⟩)
  have HB := Aside0.mk (below_step HB.out hb1)
  clear hb1 HW HJ a0 a1 a2 b0 b1 b2
  go_wp2
  go_ret
  exact ⟨rfl, HB.out⟩
def T_magpieref04_All_6 : Bool × List (List Nat × List Nat) := (true, [([], []), ([], []), ([0, 1], [0, 1]), ([2], [2]), ([], []), ([], []), ([4, 5], [4, 5]), ([6], [6]), ([3, 7], [3, 7]), ([8], [8])])
def B_magpieref04_All_6 : List Nat := [0, 0, 3, 7, 0, 0, 48, 112, 255, 511]
theorem tab_magpieref04_All_6 : rtab .any (opsOf Tryz.f10 6) = T_magpieref04_All_6 := by kernel_rfl
theorem bits_magpieref04_All_6 : waitsOk T_magpieref04_All_6.2 B_magpieref04_All_6 = true := by kernel_rfl
set_option maxRecDepth 20000 in
set_option maxHeartbeats 4000000 in
theorem all_any (A B : Option Addr) (xs ys : List Ent) (c d : Nat) (w : World) (hA : RowV w A xs) (hB : RowV w B ys) (hx : ∀ x ∈ xs, x.In w) (hy : ∀ y ∈ ys, y.In w) (hk : xs.map Ent.key = ys.map Ent.key) (hm : xs.length ≤ 100000) :
  Calls Tryz.prog 10 #[.slice A xs.length c, .slice B ys.length d] w fun e w' => e = .returned (.bool true) ∧ Below w.heap.size w w' := by
 have hlen : ys.length = xs.length := by have := congrArg List.length hk; simpa using this.symm
 rw [hlen]
 have HA := Aside0.mk hA
 have HBr := Aside0.mk hB
 have HX := Aside0.mk hx
 have HY := Aside0.mk hy
 have HK := Aside0.mk hk
 have HL := Aside0.mk hlen
 have HM := Aside0.mk hm
 clear hA hB hx hy hk hlen hm
 go_enter Tryz.func10, Tryz.ntmps10
 go_wp2
 go_loopw [13] (fun t13 wr => ∃ (i : Nat), i ≤ xs.length ∧ t13 = .int .i64 (i : Int) ∧ Aside0 (Below w.heap.size w wr)) (fun t13 _ => xs.length - (intOf t13).toNat)
 case atStart => exact ⟨0, Nat.zero_le _, rfl, ⟨Below.refl _ _⟩⟩
 case round =>
  obtain ⟨i, hi, rfl, HBo⟩ := hrel
  by_cases hlt : i < xs.length
  ·have hlt2 : i < ys.length := by rw [HL.out]; exact hlt
   obtain ⟨a, rfl, k0, k1, k2⟩ := (HA.out.below HBo.out).get i hlt
   obtain ⟨b, rfl, m0, m1, m2⟩ := (HBr.out.below HBo.out).get i hlt2
   obtain ⟨x, hx⟩ : ∃ x, x = xs[i] := ⟨_, rfl⟩
   obtain ⟨y, hy⟩ : ∃ y, y = ys[i] := ⟨_, rfl⟩
   rw [← hx] at k0 k1 k2
   rw [← hy] at m0 m1 m2
   have HSm : Aside0 (∀ V, Below w.heap.size w V → Calls Tryz.prog 22 #[x.val, y.val] V fun e w' => e = .returned (.bool true) ∧ Below V.heap.size V w') := ⟨fun V h => by
    have e1 : x.key = y.key := by
     have h1 : (xs.map Ent.key)[i]? = (ys.map Ent.key)[i]? := by rw [HK.out]
     rw [List.getElem?_map, List.getElem?_map, List.getElem?_eq_getElem hlt, List.getElem?_eq_getElem hlt2, ← hx, ← hy] at h1
     simpa using h1
    have := refSame_any x y V ((HX.out x (by rw [hx]; exact List.getElem_mem hlt)).below h) ((HY.out y (by rw [hy]; exact List.getElem_mem hlt2)).below h)
    rw [e1, sameK_refl] at this
    exact this⟩
   have K0 := Aside0.mk k0
   have K1 := Aside0.mk k1
   have K2 := Aside0.mk k2
   have M0 := Aside0.mk m0
   have M1 := Aside0.mk m1
   have M2 := Aside0.mk m2
   have Hlt := Aside0.mk hlt
   have ja : (i : Int) < (xs.length : Int) := by omega
   have jl : decide ((i : Int) < (xs.length : Int)) = true := decide_eq_true ja
   have HBd : Aside0 (Below w.heap.size w wr) := ⟨HBo.out⟩
   have HB : Aside0 (Below wr.heap.size wr wr) := ⟨Below.refl _ _⟩
   unfold Ent.val at HSm
   clear k0 k1 k2 m0 m1 m2 hx hy hlt2
   go_wp2_with fail
   refine start_ (n := 10) (S := fun x_ => Below wr.heap.size wr x_) (ds := []) #[false, false, false, false, false, false, false, false, false, false] (by kernel_rfl) rfl rfl (pw_below_drewN (Below.refl _ _) 1) (fun hHeld => ?_)
   refine with_tabW tab_magpieref04_All_6 bits_magpieref04_All_6 (fun HT_ HW_ => ?_)
   have HB := Aside0.mk (pw_below_drewN HB.out 1)
   change Aside0 (Below _ _ (World.drew wr)) at HB
   change Below _ _ (World.drew wr) at hHeld
   have hSz : (World.drew wr).heap.size = wr.heap.size := rfl
   have HBd := Aside0.mk (show Below w.heap.size w (World.drew wr) from pw_below_drewN HBd.out 1)
   have K0 := Aside0.mk (show (World.drew wr).cell? _ = _ from K0.out)
   have K1 := Aside0.mk (show (World.drew wr).cell? _ = _ from K1.out)
   have K2 := Aside0.mk (show (World.drew wr).cell? _ = _ from K2.out)
   have M0 := Aside0.mk (show (World.drew wr).cell? _ = _ from M0.out)
   have M1 := Aside0.mk (show (World.drew wr).cell? _ = _ from M1.out)
   have M2 := Aside0.mk (show (World.drew wr).cell? _ = _ from M2.out)
   refine wpAnyLast_str (S' := fun x_ => Below (World.drew wr).heap.size (World.drew wr) x_) (fun x_ hx_ => below_step hHeld hx_) (Below.refl _ _) ?_
   clear hHeld hSz
   generalize World.drew wr = wrd at *
   have HS := Aside0.mk (Below.refl wrd.heap.size wrd)
   refine pure_ (i := 0) (N := (some 16)) (v := ?_) (a' := ?_) #[true, false, false, false, false, false, false, false, false, false] rfl rfl (any_of HT_.out (by kernel_rfl)) (fun _ _ _ h => h) (Or.inl ⟨by rfl, ?_⟩) ?_ ?_
   rotate_left
   ·intro w_
    go_simp
    try with_reducible rfl
   rotate_left
   ·simp only [Act.put, List.setIfInBounds_toArray, List.set_cons_zero, List.set_cons_succ, i64_w, i32_w]
    rfl
   refine pure_ (i := 1) (N := (some 17)) (v := ?_) (a' := ?_) #[true, true, false, false, false, false, false, false, false, false] rfl rfl (any_of HT_.out (by kernel_rfl)) (fun _ _ _ h => h) (Or.inl ⟨by rfl, ?_⟩) ?_ ?_
   rotate_left
   ·intro w_
    go_simp
    try with_reducible rfl
   rotate_left
   ·simp only [Act.put, List.setIfInBounds_toArray, List.set_cons_zero, List.set_cons_succ, i64_w, i32_w]
    rfl
   refine pure_ (i := 2) (N := (some 18)) (v := ?_) (a' := ?_) #[true, true, true, false, false, false, false, false, false, false] rfl rfl (any_of HT_.out (by kernel_rfl)) (fun _ _ _ h => h) (Or.inl ⟨by rfl, ?_⟩) ?_ ?_
   rotate_left
   ·intro w_
    go_simp
    try with_reducible rfl
   rotate_left
   ·simp only [Act.put, List.setIfInBounds_toArray, List.set_cons_zero, List.set_cons_succ, i64_w, i32_w]
    rfl
   refine pure_ (i := 4) (N := (some 20)) (v := ?_) (a' := ?_) #[true, true, true, false, true, false, false, false, false, false] rfl rfl (any_of HT_.out (by kernel_rfl)) (fun _ _ _ h => h) (Or.inl ⟨by rfl, ?_⟩) ?_ ?_
   rotate_left
   ·intro w_
    go_simp
    try with_reducible rfl
   rotate_left
   ·simp only [Act.put, List.setIfInBounds_toArray, List.set_cons_zero, List.set_cons_succ, i64_w, i32_w]
    rfl
   refine pure_ (i := 5) (N := (some 21)) (v := ?_) (a' := ?_) #[true, true, true, false, true, true, false, false, false, false] rfl rfl (any_of HT_.out (by kernel_rfl)) (fun _ _ _ h => h) (Or.inl ⟨by rfl, ?_⟩) ?_ ?_
   rotate_left
   ·intro w_
    go_simp
    try with_reducible rfl
   rotate_left
   ·simp only [Act.put, List.setIfInBounds_toArray, List.set_cons_zero, List.set_cons_succ, i64_w, i32_w]
    rfl
   refine pure_ (i := 6) (N := (some 22)) (v := ?_) (a' := ?_) #[true, true, true, false, true, true, true, false, false, false] rfl rfl (any_of HT_.out (by kernel_rfl)) (fun _ _ _ h => h) (Or.inl ⟨by rfl, ?_⟩) ?_ ?_
   rotate_left
   ·intro w_
    go_simp
    try with_reducible rfl
   rotate_left
   ·simp only [Act.put, List.setIfInBounds_toArray, List.set_cons_zero, List.set_cons_succ, i64_w, i32_w]
    rfl
   refine take_ (i := 3) (N := (some 19)) (v := ?_) (a' := ?_) #[true, true, true, true, true, true, true, false, false, false] rfl rfl (take_ofW HT_.out HW_.out (by kernel_rfl)) (fun _ _ _ h => h) (Or.inl ⟨by rfl, ?_⟩) (Below.refl _ _) ?_ ?_
   rotate_left
   ·intro Wx hWx
    have h0 := cell_below hWx K0.out
    have h1 := cell_below hWx K1.out
    have h2 := cell_below hWx K2.out
    go_simp
    try with_reducible rfl
   rotate_left
   ·simp only [Act.put, List.setIfInBounds_toArray, List.set_cons_zero, List.set_cons_succ, i64_w, i32_w]
    rfl
   refine take_ (i := 7) (N := (some 23)) (v := ?_) (a' := ?_) #[true, true, true, true, true, true, true, true, false, false] rfl rfl (take_ofW HT_.out HW_.out (by kernel_rfl)) (fun _ _ _ h => h) (Or.inl ⟨by rfl, ?_⟩) (Below.refl _ _) ?_ ?_
   rotate_left
   ·intro Wx hWx
    have h0 := cell_below hWx M0.out
    have h1 := cell_below hWx M1.out
    have h2 := cell_below hWx M2.out
    go_simp
    try with_reducible rfl
   rotate_left
   ·simp only [Act.put, List.setIfInBounds_toArray, List.set_cons_zero, List.set_cons_succ, i64_w, i32_w]
    rfl
   refine one_ (i := 8) (N := (some 24)) #[true, true, true, true, true, true, true, true, true, false] rfl rfl (one_of HT_.out (by kernel_rfl)) (by decide) (fun K hK => ?_)
   refine goes_ Tryz.func22 (by kernel_rfl) rfl #[.agg #[.int .i64 x.at_, .slice x.A x.ls.length x.c, .string x.line], .agg #[.int .i64 y.at_, .slice y.A y.ls.length y.c, .string y.line]] (by rfl) rfl rfl (by (try simp only [List.map_toArray, List.map_cons, List.map_nil]); first | done | rfl) ?_
   refine (HSm.out _ HBd.out).mono ?_
   rintro e w6_8 ⟨rfl, hb_1⟩
   refine ⟨_, rfl, ?_⟩
   have HBd := Aside0.mk (below_step HBd.out hb_1)
   have hb_ : Below wrd.heap.size wrd w6_8 := hb_1
   have HB := Aside0.mk (below_step HB.out hb_)
   refine hK.out _ _ hb_ (fun hHeld => ?_)
   clear hK K
   refine wpAnyLast_str (S' := fun x_ => Below w6_8.heap.size w6_8 x_) (fun x_ hx_ => below_step hHeld hx_) (Below.refl _ _) ?_
   clear hHeld
   (try clear hb)
   clear hb_
   have HS := Aside0.mk (Below.refl w6_8.heap.size w6_8)
   refine norm_ (a' := ?_) ?_ ?_
   rotate_left
   ·show Act.put _ (some 24) _ = _
    simp only [Act.put, List.setIfInBounds_toArray, List.set_cons_zero, List.set_cons_succ, i64_w, i32_w]
    rfl
   refine pure_ (i := 9) (N := (some 25)) (v := ?_) (a' := ?_) #[true, true, true, true, true, true, true, true, true, true] rfl rfl (any_of HT_.out (by kernel_rfl)) (fun _ _ _ h => h) (Or.inl ⟨by rfl, ?_⟩) ?_ ?_
   rotate_left
   ·intro w_
    go_simp
    try with_reducible rfl
   rotate_left
   ·simp only [Act.put, List.setIfInBounds_toArray, List.set_cons_zero, List.set_cons_succ, i64_w, i32_w]
    rfl
   refine done_ (done_of HT_.out (by kernel_rfl)) ?_
   go_wp2
   go_roundw
   case rel => exact ⟨i + 1, by have := Hlt.out; omega, by rw [w64_in _ (by have := Hlt.out; have := HM.out; omega)]; rfl, HBd⟩
   case measure => have h1 := Hlt.out; have h2 := HM.out; rw [w64_in _ (by omega)]; simp [intOf]; omega
  ·go_wp2
   go_ret
   exact ⟨rfl, HBo.out⟩
end Go.Proofs.YtpleiklodomgiaaGreatDoor.C
end
section
namespace Go.Proofs.YtpleiklodomgiaaGreatDoor.C
open Go.RowKit Go.Proofs.YtpleiklodomgiaaGreatDoorW.PrintWords Go.Proofs.YtpleiklodomgiaaGreatDoorW.PrintLast Go.Proofs.YtpleiklodomgiaaGreatDoorW.PrintMore Go.Proofs.YtpleiklodomgiaaGreatDoor.B Go.Proofs.YtpleiklodomgiaaGreatDoor.Reg Go.Proofs.YtpleiklodomgiaaGreatDoor.PModelIs Go.Proofs.YtpleiklodomgiaaGreatDoor.CQ
def insE (desc : Bool) : List Ent → Ent → List Ent
 | [], e => [e]
 | a :: l, e => if aheadO desc a.key e.key = true then a :: insE desc l e else if sameK a.key e.key = true then a :: l else e :: a :: l
theorem insE_go {desc : Bool} {S : List Ent} {e : Ent} {p : Nat} (hp : p < S.length) (h : insE desc S e = S.take p ++ insE desc (S.drop p) e) (ha : aheadO desc S[p].key e.key = true) : insE desc S e = S.take (p + 1) ++ insE desc (S.drop (p + 1)) e := by
 rw [h, List.drop_eq_getElem_cons hp, List.take_add_one, List.getElem?_eq_getElem hp]
 simp only [insE, if_pos ha, Option.toList_some, List.append_assoc, List.cons_append, List.nil_append]
theorem insE_end {desc : Bool} {S : List Ent} {e : Ent} (h : insE desc S e = S.take S.length ++ insE desc (S.drop S.length) e) : insE desc S e = S.take S.length ++ e :: S.drop S.length := by
 rw [h, List.drop_length]; rfl
theorem insE_same {desc : Bool} {S : List Ent} {e : Ent} {p : Nat} (hp : p < S.length) (h : insE desc S e = S.take p ++ insE desc (S.drop p) e) (ha : aheadO desc S[p].key e.key = false) (hs : sameK S[p].key e.key = true) : insE desc S e = S := by
 rw [h, List.drop_eq_getElem_cons hp]
 simp only [insE, ha, Bool.false_eq_true, if_false, if_pos hs]
 rw [← List.drop_eq_getElem_cons hp, List.take_append_drop]
theorem insE_put {desc : Bool} {S : List Ent} {e : Ent} {p : Nat} (hp : p < S.length) (h : insE desc S e = S.take p ++ insE desc (S.drop p) e) (ha : aheadO desc S[p].key e.key = false) (hs : sameK S[p].key e.key = false) : insE desc S e = S.take p ++ e :: S.drop p := by
 rw [h, List.drop_eq_getElem_cons hp]
 simp only [insE, ha, hs, Bool.false_eq_true, if_false]
theorem insE_mem {desc : Bool} : ∀ {S : List Ent} {e y : Ent}, y ∈ insE desc S e → y ∈ S ∨ y = e
 | [], e, y, h => by simp only [insE, List.mem_singleton] at h; exact .inr h
 | a :: l, e, y, h => by
  unfold insE at h
  split at h
  ·rcases List.mem_cons.1 h with h | h
   ·exact .inl (by rw [h]; exact List.mem_cons_self ..)
   ·rcases insE_mem h with h | h
    ·exact .inl (List.mem_cons_of_mem _ h)
    ·exact .inr h
  ·split at h
   ·exact .inl h
   ·rcases List.mem_cons.1 h with h | h
    ·exact .inr h
    ·exact .inl h
theorem insE_len {desc : Bool} : ∀ {S : List Ent} {e : Ent}, (insE desc S e).length ≤ S.length + 1
 | [], e => by simp [insE]
 | a :: l, e => by
  have ih := insE_len (desc := desc) (S := l) (e := e)
  unfold insE
  split
  ·simp only [List.length_cons]; omega
  ·split <;> simp only [List.length_cons] <;> omega
theorem insE_keys {desc : Bool} : ∀ {S : List Ent} {e : Ent} (k : Key), k ∈ (insE desc S e).map Ent.key ↔ k ∈ S.map Ent.key ∨ k = e.key
 | [], e, k => by simp [insE]
 | a :: l, e, k => by
  have ih := insE_keys (desc := desc) (S := l) (e := e) k
  unfold insE
  split
  ·simp only [List.map_cons, List.mem_cons]
   rw [ih, or_assoc]
  ·split
   ·rename_i h1 h2
    have h3 := (sameK_iff _ _).1 h2
    simp only [List.map_cons, List.mem_cons]
    rw [h3]
    constructor
    ·intro h; exact .inl h
    ·rintro (h | h)
     ·exact h
     ·exact .inl h
   ·simp only [List.map_cons, List.mem_cons]
    constructor
    ·rintro (h | h)
     ·exact .inr h
     ·exact .inl h
    ·rintro (h | h)
     ·exact .inr h
     ·exact .inl h
theorem same_O (desc : Bool) (a b : Key) : cmpO desc a b = 0 ↔ a = b := (cmpO_c desc).eq0 a b
theorem insE_up {desc : Bool} : ∀ {S : List Ent} {e : Ent}, Up (cmpO desc) (S.map Ent.key) → Up (cmpO desc) ((insE desc S e).map Ent.key)
 | [], e, h => by unfold insE; exact List.pairwise_singleton _ _
 | a :: l, e, h => by
  have h1 := List.pairwise_cons.1 h
  have ih := insE_up (desc := desc) (S := l) (e := e) h1.2
  unfold insE
  split
  ·rename_i ha
   refine List.pairwise_cons.2 ⟨fun k hk => ?_, ih⟩
   rcases (insE_keys k).1 hk with hk | rfl
   ·exact h1.1 k hk
   ·exact of_decide_eq_true ha
  ·rename_i ha
   split
   ·exact h
   ·rename_i hs
    have t := (cmpO_c desc).tri a.key e.key
    have ea : cmpO desc e.key a.key = -1 := by
     rw [(cmpO_c desc).anti]
     rcases t with t | t | t
     ·exact absurd (decide_eq_true t) ha
     ·exact absurd ((sameK_iff _ _).2 ((same_O desc _ _).1 t)) hs
     ·rw [t]
    refine List.pairwise_cons.2 ⟨fun k hk => ?_, h⟩
    rcases List.mem_cons.1 hk with rfl | hk
    ·exact ea
    ·exact (cmpO_c desc).trans _ _ _ ea (h1.1 k hk)
def sortR (desc : Bool) (xs : List Ent) : List Ent := xs.foldl (insE desc) []
theorem sortR_snoc (desc : Bool) (xs : List Ent) (x : Ent) : sortR desc (xs ++ [x]) = insE desc (sortR desc xs) x := by unfold sortR; rw [List.foldl_append]; rfl
theorem fold_all {desc : Bool} : ∀ (xs S : List Ent), Up (cmpO desc) (S.map Ent.key) → Up (cmpO desc) ((xs.foldl (insE desc) S).map Ent.key) ∧ (∀ k, k ∈ (xs.foldl (insE desc) S).map Ent.key ↔ k ∈ S.map Ent.key ∨ k ∈ xs.map Ent.key) ∧ (∀ y ∈ xs.foldl (insE desc) S, y ∈ S ∨ y ∈ xs) ∧ (xs.foldl (insE desc) S).length ≤ S.length + xs.length
 | [], S, h => ⟨h, fun k => by simp, fun y hy => .inl hy, Nat.le_refl _⟩
 | x :: xs, S, h => by
  obtain ⟨h1, h2, h3, h4⟩ := fold_all xs (insE desc S x) (insE_up h)
  refine ⟨h1, fun k => ?_, fun y hy => ?_, ?_⟩
  ·rw [List.foldl_cons, h2, insE_keys, List.map_cons, List.mem_cons, or_assoc]
  ·rcases h3 y hy with h5 | h5
   ·rcases insE_mem h5 with h6 | h6
    ·exact .inl h6
    ·exact .inr (by rw [h6]; exact List.mem_cons_self ..)
   ·exact .inr (List.mem_cons_of_mem _ h5)
  ·have := insE_len (desc := desc) (S := S) (e := x)
   rw [List.foldl_cons, List.length_cons]; omega
theorem sortR_up (desc : Bool) (xs : List Ent) : Up (cmpO desc) ((sortR desc xs).map Ent.key) := (fold_all xs [] List.Pairwise.nil).1
theorem sortR_keys (desc : Bool) (xs : List Ent) (k : Key) : k ∈ (sortR desc xs).map Ent.key ↔ k ∈ xs.map Ent.key := by
 have := (fold_all (desc := desc) xs [] List.Pairwise.nil).2.1 k
 unfold sortR
 rw [this]; simp
theorem sortR_mem {desc : Bool} {xs : List Ent} {y : Ent} (h : y ∈ sortR desc xs) : y ∈ xs := by
 rcases (fold_all (desc := desc) xs [] List.Pairwise.nil).2.2.1 y h with h | h
 ·simp at h
 ·exact h
theorem sortR_len (desc : Bool) (xs : List Ent) : (sortR desc xs).length ≤ xs.length := by have := (fold_all (desc := desc) xs [] List.Pairwise.nil).2.2.2; simpa [sortR] using this
end Go.Proofs.YtpleiklodomgiaaGreatDoor.C
end
section
namespace Go.Proofs.YtpleiklodomgiaaGreatDoor.C
open Go.RowKit Go.Proofs.YtpleiklodomgiaaGreatDoorW.PrintWords Go.Proofs.YtpleiklodomgiaaGreatDoorW.PrintLast Go.Proofs.YtpleiklodomgiaaGreatDoorW.PrintMore Go.Proofs.YtpleiklodomgiaaGreatDoor.B Go.Proofs.YtpleiklodomgiaaGreatDoor.Reg Go.Proofs.YtpleiklodomgiaaGreatDoor.PModelIs Go.Proofs.YtpleiklodomgiaaGreatDoor.CQ
def dropA (A : Option Addr) (p c : Nat) : Option Addr := if c = p then A else A.map (·.add (p * 3))
theorem slice_max (A : Option Addr) (n c p : Nat) (w : World) (h : p ≤ c) : (Instr.slice 39 (.slice A n c) none (some (.int .i64 (p : Int))) (some (.int .i64 (p : Int)))).run Tryz.prog w = .ok (.slice A p p) w := by
 have he : Tryz.prog.elem 39 = 26 := by kernel_rfl
 have hu : Tryz.prog.underlying 39 = some (.slice (Tryz.prog.elem 39)) := by rw [he]; exact Tryz.underlying39
 have hz := Tryz.sizeOf26
 simp [Instr.slice, run_underlying hu, Instr.sliceBounds, run_sliceBound, sliced, he, hz, h]
 intro _
 cases A <;> rfl
theorem slice_low (A : Option Addr) (n c p : Nat) (w : World) (h : p ≤ n) (hc : n ≤ c) : (Instr.slice 39 (.slice A n c) (some (.int .i64 (p : Int))) none none).run Tryz.prog w = .ok (.slice (dropA A p c) (n - p) (c - p)) w := by
 have he : Tryz.prog.elem 39 = 26 := by kernel_rfl
 have hu : Tryz.prog.underlying 39 = some (.slice (Tryz.prog.elem 39)) := by rw [he]; exact Tryz.underlying39
 have hz := Tryz.sizeOf26
 unfold dropA
 rw [run_slice_l w 39 A n c hu .i64 (p : Int) (by omega) (by omega)]
 simp [he, hz, sliced]
theorem RowV.dropA {w : World} {A : Option Addr} {xs : List Ent} (h : RowV w A xs) (p c : Nat) (hc : xs.length ≤ c) : RowV w (C.dropA A p c) (xs.drop p) := by
 unfold C.dropA
 split
 ·rename_i e
  rw [List.drop_eq_nil_of_le (by omega)]
  exact ⟨fun _ => rfl, fun a ha j u hu => by simp [entC] at hu⟩
 ·cases A with
  | none => rw [h.nil rfl]; exact ⟨fun _ => by simp, fun a ha => (by cases ha)⟩
  | some a => exact h.drop p
end Go.Proofs.YtpleiklodomgiaaGreatDoor.C
end
section
namespace Go.Proofs.YtpleiklodomgiaaGreatDoor.C
open Go.RowKit Go.Proofs.YtpleiklodomgiaaGreatDoorW.PrintWords Go.Proofs.YtpleiklodomgiaaGreatDoorW.PrintLast Go.Proofs.YtpleiklodomgiaaGreatDoorW.PrintMore Go.Proofs.YtpleiklodomgiaaGreatDoor.B Go.Proofs.YtpleiklodomgiaaGreatDoor.Reg Go.Proofs.YtpleiklodomgiaaGreatDoor.PModelIs Go.Proofs.YtpleiklodomgiaaGreatDoor.CQ
structure InS (w wr : World) (j : Nat) (x : Ent) (A : Option Addr) (c : Nat) (S : List Ent) : Prop where
 below : Below w.heap.size w wr
 own : OwnE wr w.heap.size (.slice A S.length c) S
 box : BoxE wr j x
section
variable {w wr w' : World} {j : Nat} {x : Ent} {A : Option Addr} {c : Nat} {S : List Ent}
theorem InS.step (h : InS w wr j x A c S) (hb : Below wr.heap.size wr w') : InS w w' j x A c S := ⟨below_step h.below hb, h.own.below hb, h.box.below hb⟩
theorem InS.drew (h : InS w wr j x A c S) : InS w wr.drew j x A c S := h.step (pw_below_drewN (Below.refl _ _) 1)
theorem InS.row (h : InS w wr j x A c S) : RowV wr A S ∧ S.length ≤ c := by
 obtain ⟨A', c', e, h1, h2, _⟩ := h.own.row
 injection e with e1 e2 e3
 subst e1 e3
 exact ⟨h2, h1⟩
end
theorem own_one (base : Nat) (w : World) (x : Ent) (hb : base ≤ w.heap.size) : OwnE (w.alloc (.cells #[.int .i64 x.at_, .slice x.A x.ls.length x.c, .string x.line] 26)) base (.slice (some ⟨w.heap.size, 0, none⟩) 1 1) [x] :=
 ⟨rfl, .inr ⟨w.heap.size, 1, _, rfl, hb, Go.heap_alloc_new w _, Nat.le_refl _, by decide, rfl, rfl⟩⟩
theorem put_in (base : Nat) (V : World) (x : Ent) (A : Option Addr) (c : Nat) (S : List Ent) (p : Nat) (hR : RowV V A S) (hc : S.length ≤ c) (hp : p ≤ S.length) (hb : base ≤ V.heap.size) (hl : S.length ≤ 1000) :
  ∃ v9 w9 cap w10, (∀ ty, (Builtin.append_ #[39, 39] ty #[.slice (some ⟨V.heap.size, 0, none⟩) 1 1, .slice (dropA A p c) (S.length - p) (c - p)]).run Tryz.prog (V.alloc (.cells #[.int .i64 x.at_, .slice x.A x.ls.length x.c, .string x.line] 26)) = .ok v9 w9) ∧ Below V.heap.size V w9 ∧
   (∀ ty, (Builtin.append_ #[39, 39] ty #[.slice A p p, v9]).run Tryz.prog w9 = .ok (.slice (some ⟨w9.heap.size, 0, none⟩) (S.take p ++ x :: S.drop p).length cap) w10) ∧ OwnE w10 base (.slice (some ⟨w9.heap.size, 0, none⟩) (S.take p ++ x :: S.drop p).length cap) (S.take p ++ x :: S.drop p) ∧ Below V.heap.size V w10 := by
 have hb0 : Below V.heap.size V (V.alloc (.cells #[.int .i64 x.at_, .slice x.A x.ls.length x.c, .string x.line] 26)) := below_alloc (Below.refl _ _) _
 have hD := (hR.below hb0).dropA p c hc
 obtain ⟨v9, w9, r1, o1, g1, n1, -⟩ := app_own V.heap.size (V.alloc (.cells #[.int .i64 x.at_, .slice x.A x.ls.length x.c, .string x.line] 26)) _ [x] (dropA A p c) (S.drop p) (c - p) (own_one V.heap.size V x (Nat.le_refl _)) hD (by simp) (by rw [List.length_drop]; simp; omega)
 rw [List.length_drop] at r1
 have hb9 : Below V.heap.size V w9 := hb0.grown g1 hb0.size (fun k hk => by simp [Value.ownBlock] at hk; omega)
 obtain ⟨A9, c9, e9, h1, h2, h3⟩ := o1.row
 cases A9 with
 | none => exact absurd (h2.nil rfl) (by simp)
 | some a9 =>
  subst e9
  have hT := ((hR.below hb9).take p)
  obtain ⟨cap, w10, r2, o2, g2⟩ := app_new base w9 A (S.take p) a9 ([x] ++ S.drop p) c9 hT h2 (by simp) (Nat.le_trans hb hb9.size) (by simp; omega)
  have ht : (S.take p).length = p := by rw [List.length_take]; omega
  rw [ht] at r2
  exact ⟨_, w9, cap, w10, r1, hb9, r2, o2, hb9.grown g2 hb9.size (fun k hk => by cases hk)⟩
def T_magpieref04_Sort_6 : Bool × List (List Nat × List Nat) := (true, [([], []), ([], []), ([1], [1]), ([0, 2], [0, 2]), ([3], [3]), ([4], [4]), ([4], [4]), ([4], [4]), ([6, 7, 4], [4, 6, 7]), ([8, 4], [4, 8]), ([4], [4]), ([5, 9, 10, 4, 4], [4, 5, 9, 10]), ([4, 11], [4, 11])])
def B_magpieref04_Sort_6 : List Nat := [0, 0, 2, 7, 15, 31, 31, 31, 223, 479, 31, 2047, 4095]
theorem tab_magpieref04_Sort_6 : rtab .any (opsOf Tryz.f21 6) = T_magpieref04_Sort_6 := by kernel_rfl
theorem bits_magpieref04_Sort_6 : waitsOk T_magpieref04_Sort_6.2 B_magpieref04_Sort_6 = true := by kernel_rfl
def T_magpieref04_Sort_8 : Bool × List (List Nat × List Nat) := (true, [([], []), ([], []), ([1], [1]), ([0, 2], [0, 2]), ([3], [3]), ([4], [4]), ([4], [4]), ([5, 6, 4], [4, 5, 6]), ([7, 4], [4, 7]), ([4], [4]), ([8, 9, 4, 4], [4, 8, 9]), ([4, 10], [4, 10])])
def B_magpieref04_Sort_8 : List Nat := [0, 0, 2, 7, 15, 31, 31, 127, 255, 31, 1023, 2047]
theorem tab_magpieref04_Sort_8 : rtab .any (opsOf Tryz.f21 8) = T_magpieref04_Sort_8 := by kernel_rfl
theorem bits_magpieref04_Sort_8 : waitsOk T_magpieref04_Sort_8.2 B_magpieref04_Sort_8 = true := by kernel_rfl
def T_magpieref04_Sort_9 : Bool × List (List Nat × List Nat) := (true, [([], []), ([], []), ([], []), ([0, 1, 2], [0, 1, 2]), ([], []), ([4], [4]), ([], []), ([], []), ([6, 7], [6, 7]), ([5, 8], [5, 8]), ([3, 9, 9], [3, 9]), ([10, 10, 0, 1, 2, 3, 4, 5, 6, 7, 8, 9, 10], [0, 6, 10])])
def B_magpieref04_Sort_9 : List Nat := [0, 0, 0, 7, 0, 16, 0, 0, 192, 496, 1023, 2047]
theorem tab_magpieref04_Sort_9 : rtab .any (opsOf Tryz.f21 9) = T_magpieref04_Sort_9 := by kernel_rfl
theorem bits_magpieref04_Sort_9 : waitsOk T_magpieref04_Sort_9.2 B_magpieref04_Sort_9 = true := by kernel_rfl
set_option maxRecDepth 20000 in
set_option maxHeartbeats 16000000 in
theorem refSort_any (desc : Bool) (A : Option Addr) (xs : List Ent) (c : Nat) (w : World) (hR : RowV w A xs) (hI : ∀ x ∈ xs, x.In w) (hl : xs.length ≤ 1000) :
  Calls Tryz.prog 21 #[.bool desc, .slice A xs.length c] w fun e w' => ∃ v', e = .returned v' ∧ OwnE w' w.heap.size v' (sortR desc xs) ∧ Below w.heap.size w w' := by
 have HR := Aside0.mk hR
 have HI := Aside0.mk hI
 have HM := Aside0.mk hl
 clear hR hI hl
 go_enter Tryz.func21, Tryz.ntmps21
 go_wp2
 go_loopw [5, 11] (fun t5 t11 wr => ∃ (i : Nat) (v : Value), i ≤ xs.length ∧ t5 = v ∧ t11 = .int .i64 (i : Int) ∧ Aside0 (Below w.heap.size w wr) ∧ Aside0 (OwnE wr w.heap.size v (sortR desc (xs.take i)))) (fun _ t11 _ => xs.length - (intOf t11).toNat)
 case atStart => exact ⟨0, _, Nat.zero_le _, rfl, rfl, ⟨Below.refl _ _⟩, ⟨OwnE.nil _ _⟩⟩
 case round =>
  obtain ⟨i, v, hi, hv, rfl, HB, HO⟩ := hrel
  replace hv := hv.symm
  subst hv
  by_cases hlt : i < xs.length
  ·obtain ⟨a0, rfl, k0, k1, k2⟩ := (HR.out.below HB.out).get i hlt
   obtain ⟨x, hx⟩ : ∃ x, x = xs[i] := ⟨_, rfl⟩
   rw [← hx] at k0 k1 k2
   have HMem : Aside0 (x ∈ xs) := ⟨by rw [hx]; exact List.getElem_mem hlt⟩
   obtain ⟨S, hS⟩ : ∃ S, S = sortR desc (xs.take i) := ⟨_, rfl⟩
   have HNx : Aside0 (sortR desc (xs.take (i + 1)) = insE desc S x) := ⟨by rw [hS, List.take_add_one, List.getElem?_eq_getElem hlt, ← hx]; exact sortR_snoc desc _ x⟩
   have HSm : Aside0 (∀ y ∈ S, y.In w) := ⟨fun y hy => HI.out y (by rw [hS] at hy; exact List.mem_of_mem_take (sortR_mem hy))⟩
   have HSl : Aside0 (S.length ≤ 1000) := ⟨by have h1 := sortR_len desc (xs.take i); rw [← hS, List.length_take] at h1; have := HM.out; omega⟩
   rw [← hS] at HO
   obtain ⟨Av, cv, rfl, -, -, -⟩ := HO.out.row
   obtain ⟨W, hW⟩ : ∃ W, W = wr.alloc (.cells #[.int .i64 x.at_, .slice x.A x.ls.length x.c, .string x.line] 26) := ⟨_, rfl⟩
   obtain ⟨j, hj⟩ : ∃ j, j = wr.heap.size := ⟨_, rfl⟩
   have hb0 : Below wr.heap.size wr W := by rw [hW]; exact below_alloc (Below.refl _ _) _
   have HIn : Aside0 (InS w W j x Av cv S) := ⟨⟨below_step HB.out hb0, HO.out.below hb0, by rw [hW, hj]; exact Go.heap_alloc_new _ _⟩⟩
   have HWd := Aside0.mk hW
   have HJd := Aside0.mk hj
   have Hlt := Aside0.mk hlt
   have jx : (i : Int) < (xs.length : Int) := by omega
   clear hx hS hW hj hb0 HB HO hlt hi
   go_wp2
   try rw [← HWd.out]
   try rw [← HJd.out]
   clear k0 k1 k2 HWd HJd jx
   go_loopw [8] (fun t8 wr => ∃ (p : Nat), p ≤ S.length ∧ t8 = .int .i64 (p : Int) ∧ Aside0 (InS w wr j x Av cv S) ∧ Aside0 (insE desc S x = S.take p ++ insE desc (S.drop p) x)) (fun t8 _ => S.length - (intOf t8).toNat)
   case atStart => exact ⟨0, Nat.zero_le _, rfl, HIn, ⟨rfl⟩⟩
   case round =>
    clear HIn
    obtain ⟨p, hp, rfl, HIn, HP⟩ := hrel
    have HPl := Aside0.mk hp
    have HX : Aside0 (x.In w) := ⟨HI.out x HMem.out⟩
    by_cases hlt : p < S.length
    ·obtain ⟨a, ha, k0, k1, k2⟩ := HIn.out.row.1.get p hlt
     obtain ⟨y, hy⟩ : ∃ y, y = S[p] := ⟨_, rfl⟩
     rw [← hy] at k0 k1 k2
     have HY : Aside0 (y.In w) := ⟨HSm.out y (by rw [hy]; exact List.getElem_mem hlt)⟩
     have Hplt := Aside0.mk hlt
     obtain ⟨ah, hah⟩ : ∃ b, b = aheadO desc y.key x.key := ⟨_, rfl⟩
     obtain ⟨sm, hsm⟩ : ∃ b, b = sameK y.key x.key := ⟨_, rfl⟩
     have HAh : Aside0 (∀ V, Below w.heap.size w V → Calls Tryz.prog 28 #[.bool desc, y.val, x.val] V fun e w' => e = .returned (.bool ah) ∧ Below V.heap.size V w') := ⟨fun V h => by rw [hah]; exact ahead_any desc y x V (HY.out.below h) (HX.out.below h)⟩
     have HSa : Aside0 (∀ V, Below w.heap.size w V → Calls Tryz.prog 22 #[y.val, x.val] V fun e w' => e = .returned (.bool sm) ∧ Below V.heap.size V w') := ⟨fun V h => by rw [hsm]; exact refSame_any y x V (HY.out.below h) (HX.out.below h)⟩
     have Hah : Aside0 (aheadO desc (S[p]'Hplt.out).key x.key = ah) := ⟨by rw [hah, hy]⟩
     have Hsm : Aside0 (sameK (S[p]'Hplt.out).key x.key = sm) := ⟨by rw [hsm, hy]⟩
     have K0 := Aside0.mk k0
     have K1 := Aside0.mk k1
     have K2 := Aside0.mk k2
     have ja : (p : Int) < (S.length : Int) := by omega
     have jl : decide ((p : Int) < (S.length : Int)) = true := decide_eq_true ja
     unfold Ent.val at HAh HSa
     subst ha
     clear k0 k1 k2 hy hah hsm hlt
     have HB : Aside0 (Below wr.heap.size wr wr) := ⟨Below.refl _ _⟩
     go_wp2_with fail
     refine start_ (n := 13) (S := fun x_ => Below wr.heap.size wr x_) (ds := []) #[false, false, false, false, false, false, false, false, false, false, false, false, false] (by kernel_rfl) rfl rfl (pw_below_drewN (Below.refl _ _) 1) (fun hHeld => ?_)
     refine with_tabW tab_magpieref04_Sort_6 bits_magpieref04_Sort_6 (fun HT_ HW_ => ?_)
     have HB := Aside0.mk (pw_below_drewN HB.out 1)
     change Aside0 (Below _ _ (World.drew wr)) at HB
     change Below _ _ (World.drew wr) at hHeld
     have hSz : (World.drew wr).heap.size = wr.heap.size := rfl
     have HIn := Aside0.mk (show InS w (World.drew wr) j x _ _ S from HIn.out.drew)
     have K0 := Aside0.mk (show (World.drew wr).cell? _ = _ from K0.out)
     have K1 := Aside0.mk (show (World.drew wr).cell? _ = _ from K1.out)
     have K2 := Aside0.mk (show (World.drew wr).cell? _ = _ from K2.out)
     refine wpAnyLast_str (S' := fun x_ => Below (World.drew wr).heap.size (World.drew wr) x_) (fun x_ hx_ => below_step hHeld hx_) (Below.refl _ _) ?_
     clear hHeld hSz
     generalize World.drew wr = wrd at *
     have HS := Aside0.mk (Below.refl wrd.heap.size wrd)
     refine pure_ (i := 0) (N := (some 15)) (v := ?_) (a' := ?_) #[true, false, false, false, false, false, false, false, false, false, false, false, false] rfl rfl (any_of HT_.out (by kernel_rfl)) (fun _ _ _ h => h) (Or.inl ⟨by rfl, ?_⟩) ?_ ?_
     rotate_left
     ·intro w_
      go_simp
      try with_reducible rfl
     rotate_left
     ·simp only [Act.put, List.setIfInBounds_toArray, List.set_cons_zero, List.set_cons_succ, i64_w, i32_w]
      rfl
     refine pure_ (i := 1) (N := (some 16)) (v := ?_) (a' := ?_) #[true, true, false, false, false, false, false, false, false, false, false, false, false] rfl rfl (any_of HT_.out (by kernel_rfl)) (fun _ _ _ h => h) (Or.inl ⟨by rfl, ?_⟩) ?_ ?_
     rotate_left
     ·intro w_
      go_simp
      try with_reducible rfl
     rotate_left
     ·simp only [Act.put, List.setIfInBounds_toArray, List.set_cons_zero, List.set_cons_succ, i64_w, i32_w]
      rfl
     refine pure_ (i := 2) (N := (some 17)) (v := ?_) (a' := ?_) #[true, true, true, false, false, false, false, false, false, false, false, false, false] rfl rfl (any_of HT_.out (by kernel_rfl)) (fun _ _ _ h => h) (Or.inl ⟨by rfl, ?_⟩) ?_ ?_
     rotate_left
     ·intro w_
      go_simp
      try with_reducible rfl
     rotate_left
     ·simp only [Act.put, List.setIfInBounds_toArray, List.set_cons_zero, List.set_cons_succ, i64_w, i32_w]
      rfl
     refine pure_ (i := 3) (N := (some 18)) (v := ?_) (a' := ?_) #[true, true, true, true, false, false, false, false, false, false, false, false, false] rfl rfl (any_of HT_.out (by kernel_rfl)) (fun _ _ _ h => h) (Or.inl ⟨by rfl, ?_⟩) ?_ ?_
     rotate_left
     ·intro w_
      go_simp
      try with_reducible rfl
     rotate_left
     ·simp only [Act.put, List.setIfInBounds_toArray, List.set_cons_zero, List.set_cons_succ, i64_w, i32_w]
      rfl
     refine pure_ (i := 4) (N := (some 19)) (v := ?_) (a' := ?_) #[true, true, true, true, true, false, false, false, false, false, false, false, false] rfl rfl (any_of HT_.out (by kernel_rfl)) (fun _ _ _ h => h) (Or.inl ⟨by rfl, ?_⟩) ?_ ?_
     rotate_left
     ·intro w_
      go_simp
      try with_reducible rfl
     rotate_left
     ·simp only [Act.put, List.setIfInBounds_toArray, List.set_cons_zero, List.set_cons_succ, i64_w, i32_w]
      rfl
     refine pure_ (i := 5) (N := (some 20)) (v := ?_) (a' := ?_) #[true, true, true, true, true, true, false, false, false, false, false, false, false] rfl rfl (any_of HT_.out (by kernel_rfl)) (fun _ _ _ h => h) (Or.inl ⟨by rfl, ?_⟩) ?_ ?_
     rotate_left
     ·intro w_
      go_simp
      try with_reducible rfl
     rotate_left
     ·simp only [Act.put, List.setIfInBounds_toArray, List.set_cons_zero, List.set_cons_succ, i64_w, i32_w]
      rfl
     refine pure_ (i := 6) (N := (some 21)) (v := ?_) (a' := ?_) #[true, true, true, true, true, true, true, false, false, false, false, false, false] rfl rfl (any_of HT_.out (by kernel_rfl)) (fun _ _ _ h => h) (Or.inl ⟨by rfl, ?_⟩) ?_ ?_
     rotate_left
     ·intro w_
      go_simp
      try with_reducible rfl
     rotate_left
     ·simp only [Act.put, List.setIfInBounds_toArray, List.set_cons_zero, List.set_cons_succ, i64_w, i32_w]
      rfl
     refine pure_ (i := 7) (N := (some 22)) (v := ?_) (a' := ?_) #[true, true, true, true, true, true, true, true, false, false, false, false, false] rfl rfl (any_of HT_.out (by kernel_rfl)) (fun _ _ _ h => h) (Or.inl ⟨by rfl, ?_⟩) ?_ ?_
     rotate_left
     ·intro w_
      go_simp
      try with_reducible rfl
     rotate_left
     ·simp only [Act.put, List.setIfInBounds_toArray, List.set_cons_zero, List.set_cons_succ, i64_w, i32_w]
      rfl
     refine pure_ (i := 8) (N := (some 23)) (v := ?_) (a' := ?_) #[true, true, true, true, true, true, true, true, true, false, false, false, false] rfl rfl (any_of HT_.out (by kernel_rfl)) (fun _ _ _ h => h) (Or.inl ⟨by rfl, ?_⟩) ?_ ?_
     rotate_left
     ·intro w_
      go_simp
      try with_reducible rfl
     rotate_left
     ·simp only [Act.put, List.setIfInBounds_toArray, List.set_cons_zero, List.set_cons_succ, i64_w, i32_w]
      rfl
     refine take_ (i := 9) (N := (some 24)) (v := ?_) (a' := ?_) #[true, true, true, true, true, true, true, true, true, true, false, false, false] rfl rfl (take_ofW HT_.out HW_.out (by kernel_rfl)) (fun _ _ _ h => h) (Or.inl ⟨by rfl, ?_⟩) (Below.refl _ _) ?_ ?_
     rotate_left
     ·intro Wx hWx
      have h0 := cell_below hWx K0.out
      have h1 := cell_below hWx K1.out
      have h2 := cell_below hWx K2.out
      go_simp
      try with_reducible rfl
     rotate_left
     ·simp only [Act.put, List.setIfInBounds_toArray, List.set_cons_zero, List.set_cons_succ, i64_w, i32_w]
      rfl
     refine take_ (i := 10) (N := (some 25)) (v := ?_) (a' := ?_) #[true, true, true, true, true, true, true, true, true, true, true, false, false] rfl rfl (take_ofW HT_.out HW_.out (by kernel_rfl)) (fun _ _ _ h => h) (Or.inl ⟨by rfl, ?_⟩) (Below.refl _ _) ?_ ?_
     rotate_left
     ·intro Wx hWx
      have h0 := (HIn.out.box.below hWx).c0
      have h1 := (HIn.out.box.below hWx).c1
      have h2 := (HIn.out.box.below hWx).c2
      go_simp
      try with_reducible rfl
     rotate_left
     ·simp only [Act.put, List.setIfInBounds_toArray, List.set_cons_zero, List.set_cons_succ, i64_w, i32_w]
      rfl
     refine one_ (i := 11) (N := (some 26)) #[true, true, true, true, true, true, true, true, true, true, true, true, false] rfl rfl (one_of HT_.out (by kernel_rfl)) (by decide) (fun K hK => ?_)
     refine goes_ Tryz.func28 (by kernel_rfl) rfl #[.bool desc, .agg #[.int .i64 y.at_, .slice y.A y.ls.length y.c, .string y.line], .agg #[.int .i64 x.at_, .slice x.A x.ls.length x.c, .string x.line]] (by rfl) rfl rfl (by (try simp only [List.map_toArray, List.map_cons, List.map_nil]); first | done | rfl) ?_
     refine (HAh.out _ HIn.out.below).mono ?_
     rintro e w6_11 ⟨rfl, hb_1⟩
     refine ⟨_, rfl, ?_⟩
     have HIn := Aside0.mk (HIn.out.step hb_1)
     have K0 := Aside0.mk (cell_below hb_1 K0.out)
     have K1 := Aside0.mk (cell_below hb_1 K1.out)
     have K2 := Aside0.mk (cell_below hb_1 K2.out)
     have hb_ : Below wrd.heap.size wrd w6_11 := hb_1
     have HB := Aside0.mk (below_step HB.out hb_)
     refine hK.out _ _ hb_ (fun hHeld => ?_)
     clear hK K
     refine wpAnyLast_str (S' := fun x_ => Below w6_11.heap.size w6_11 x_) (fun x_ hx_ => below_step hHeld hx_) (Below.refl _ _) ?_
     clear hHeld
     (try clear hb)
     clear hb_
     have HS := Aside0.mk (Below.refl w6_11.heap.size w6_11)
     refine norm_ (a' := ?_) ?_ ?_
     rotate_left
     ·show Act.put _ (some 26) _ = _
      simp only [Act.put, List.setIfInBounds_toArray, List.set_cons_zero, List.set_cons_succ, i64_w, i32_w]
      rfl
     refine pure_ (i := 12) (N := (some 27)) (v := ?_) (a' := ?_) #[true, true, true, true, true, true, true, true, true, true, true, true, true] rfl rfl (any_of HT_.out (by kernel_rfl)) (fun _ _ _ h => h) (Or.inl ⟨by rfl, ?_⟩) ?_ ?_
     rotate_left
     ·intro w_
      go_simp
      try with_reducible rfl
     rotate_left
     ·simp only [Act.put, List.setIfInBounds_toArray, List.set_cons_zero, List.set_cons_succ, i64_w, i32_w]
      rfl
     refine done_ (done_of HT_.out (by kernel_rfl)) ?_
     clear HB HAh
     cases ah with
     | true =>
      go_wp2
      go_roundw
      case rel => exact ⟨p + 1, by have := Hplt.out; omega, by rw [w64_in _ (by have := Hplt.out; have := HSl.out; omega)]; rfl, HIn, ⟨insE_go Hplt.out HP.out Hah.out⟩⟩
      case measure => have h1 := Hplt.out; have h2 := HSl.out; rw [w64_in _ (by omega)]; simp [intOf]; omega
     | false =>
      have HB : Aside0 (Below w6_11.heap.size w6_11 w6_11) := ⟨Below.refl _ _⟩
      go_wp2_with fail
      refine start_ (n := 12) (S := fun x_ => Below w6_11.heap.size w6_11 x_) (ds := []) #[false, false, false, false, false, false, false, false, false, false, false, false] (by kernel_rfl) rfl rfl (pw_below_drewN (Below.refl _ _) 1) (fun hHeld => ?_)
      refine with_tabW tab_magpieref04_Sort_8 bits_magpieref04_Sort_8 (fun HT_ HW_ => ?_)
      have HB := Aside0.mk (pw_below_drewN HB.out 1)
      change Aside0 (Below _ _ (World.drew w6_11)) at HB
      change Below _ _ (World.drew w6_11) at hHeld
      have hSz : (World.drew w6_11).heap.size = w6_11.heap.size := rfl
      have HIn := Aside0.mk (show InS w (World.drew w6_11) j x _ _ S from HIn.out.drew)
      have K0 := Aside0.mk (show (World.drew w6_11).cell? _ = _ from K0.out)
      have K1 := Aside0.mk (show (World.drew w6_11).cell? _ = _ from K1.out)
      have K2 := Aside0.mk (show (World.drew w6_11).cell? _ = _ from K2.out)
      refine wpAnyLast_str (S' := fun x_ => Below (World.drew w6_11).heap.size (World.drew w6_11) x_) (fun x_ hx_ => below_step hHeld hx_) (Below.refl _ _) ?_
      clear hHeld hSz
      generalize World.drew w6_11 = w6_11d at *
      have HS := Aside0.mk (Below.refl w6_11d.heap.size w6_11d)
      refine pure_ (i := 0) (N := (some 30)) (v := ?_) (a' := ?_) #[true, false, false, false, false, false, false, false, false, false, false, false] rfl rfl (any_of HT_.out (by kernel_rfl)) (fun _ _ _ h => h) (Or.inl ⟨by rfl, ?_⟩) ?_ ?_
      rotate_left
      ·intro w_
       go_simp
       try with_reducible rfl
      rotate_left
      ·simp only [Act.put, List.setIfInBounds_toArray, List.set_cons_zero, List.set_cons_succ, i64_w, i32_w]
       rfl
      refine pure_ (i := 1) (N := (some 31)) (v := ?_) (a' := ?_) #[true, true, false, false, false, false, false, false, false, false, false, false] rfl rfl (any_of HT_.out (by kernel_rfl)) (fun _ _ _ h => h) (Or.inl ⟨by rfl, ?_⟩) ?_ ?_
      rotate_left
      ·intro w_
       go_simp
       try with_reducible rfl
      rotate_left
      ·simp only [Act.put, List.setIfInBounds_toArray, List.set_cons_zero, List.set_cons_succ, i64_w, i32_w]
       rfl
      refine pure_ (i := 2) (N := (some 32)) (v := ?_) (a' := ?_) #[true, true, true, false, false, false, false, false, false, false, false, false] rfl rfl (any_of HT_.out (by kernel_rfl)) (fun _ _ _ h => h) (Or.inl ⟨by rfl, ?_⟩) ?_ ?_
      rotate_left
      ·intro w_
       go_simp
       try with_reducible rfl
      rotate_left
      ·simp only [Act.put, List.setIfInBounds_toArray, List.set_cons_zero, List.set_cons_succ, i64_w, i32_w]
       rfl
      refine pure_ (i := 3) (N := (some 33)) (v := ?_) (a' := ?_) #[true, true, true, true, false, false, false, false, false, false, false, false] rfl rfl (any_of HT_.out (by kernel_rfl)) (fun _ _ _ h => h) (Or.inl ⟨by rfl, ?_⟩) ?_ ?_
      rotate_left
      ·intro w_
       go_simp
       try with_reducible rfl
      rotate_left
      ·simp only [Act.put, List.setIfInBounds_toArray, List.set_cons_zero, List.set_cons_succ, i64_w, i32_w]
       rfl
      refine pure_ (i := 4) (N := (some 34)) (v := ?_) (a' := ?_) #[true, true, true, true, true, false, false, false, false, false, false, false] rfl rfl (any_of HT_.out (by kernel_rfl)) (fun _ _ _ h => h) (Or.inl ⟨by rfl, ?_⟩) ?_ ?_
      rotate_left
      ·intro w_
       go_simp
       try with_reducible rfl
      rotate_left
      ·simp only [Act.put, List.setIfInBounds_toArray, List.set_cons_zero, List.set_cons_succ, i64_w, i32_w]
       rfl
      refine pure_ (i := 5) (N := (some 35)) (v := ?_) (a' := ?_) #[true, true, true, true, true, true, false, false, false, false, false, false] rfl rfl (any_of HT_.out (by kernel_rfl)) (fun _ _ _ h => h) (Or.inl ⟨by rfl, ?_⟩) ?_ ?_
      rotate_left
      ·intro w_
       go_simp
       try with_reducible rfl
      rotate_left
      ·simp only [Act.put, List.setIfInBounds_toArray, List.set_cons_zero, List.set_cons_succ, i64_w, i32_w]
       rfl
      refine pure_ (i := 6) (N := (some 36)) (v := ?_) (a' := ?_) #[true, true, true, true, true, true, true, false, false, false, false, false] rfl rfl (any_of HT_.out (by kernel_rfl)) (fun _ _ _ h => h) (Or.inl ⟨by rfl, ?_⟩) ?_ ?_
      rotate_left
      ·intro w_
       go_simp
       try with_reducible rfl
      rotate_left
      ·simp only [Act.put, List.setIfInBounds_toArray, List.set_cons_zero, List.set_cons_succ, i64_w, i32_w]
       rfl
      refine pure_ (i := 7) (N := (some 37)) (v := ?_) (a' := ?_) #[true, true, true, true, true, true, true, true, false, false, false, false] rfl rfl (any_of HT_.out (by kernel_rfl)) (fun _ _ _ h => h) (Or.inl ⟨by rfl, ?_⟩) ?_ ?_
      rotate_left
      ·intro w_
       go_simp
       try with_reducible rfl
      rotate_left
      ·simp only [Act.put, List.setIfInBounds_toArray, List.set_cons_zero, List.set_cons_succ, i64_w, i32_w]
       rfl
      refine take_ (i := 8) (N := (some 38)) (v := ?_) (a' := ?_) #[true, true, true, true, true, true, true, true, true, false, false, false] rfl rfl (take_ofW HT_.out HW_.out (by kernel_rfl)) (fun _ _ _ h => h) (Or.inl ⟨by rfl, ?_⟩) (Below.refl _ _) ?_ ?_
      rotate_left
      ·intro Wx hWx
       have h0 := cell_below hWx K0.out
       have h1 := cell_below hWx K1.out
       have h2 := cell_below hWx K2.out
       go_simp
       try with_reducible rfl
      rotate_left
      ·simp only [Act.put, List.setIfInBounds_toArray, List.set_cons_zero, List.set_cons_succ, i64_w, i32_w]
       rfl
      refine take_ (i := 9) (N := (some 39)) (v := ?_) (a' := ?_) #[true, true, true, true, true, true, true, true, true, true, false, false] rfl rfl (take_ofW HT_.out HW_.out (by kernel_rfl)) (fun _ _ _ h => h) (Or.inl ⟨by rfl, ?_⟩) (Below.refl _ _) ?_ ?_
      rotate_left
      ·intro Wx hWx
       have h0 := (HIn.out.box.below hWx).c0
       have h1 := (HIn.out.box.below hWx).c1
       have h2 := (HIn.out.box.below hWx).c2
       go_simp
       try with_reducible rfl
      rotate_left
      ·simp only [Act.put, List.setIfInBounds_toArray, List.set_cons_zero, List.set_cons_succ, i64_w, i32_w]
       rfl
      refine one_ (i := 10) (N := (some 40)) #[true, true, true, true, true, true, true, true, true, true, true, false] rfl rfl (one_of HT_.out (by kernel_rfl)) (by decide) (fun K hK => ?_)
      refine goes_ Tryz.func22 (by kernel_rfl) rfl #[.agg #[.int .i64 y.at_, .slice y.A y.ls.length y.c, .string y.line], .agg #[.int .i64 x.at_, .slice x.A x.ls.length x.c, .string x.line]] (by rfl) rfl rfl (by (try simp only [List.map_toArray, List.map_cons, List.map_nil]); first | done | rfl) ?_
      refine (HSa.out _ HIn.out.below).mono ?_
      rintro e w8_10 ⟨rfl, hb_1⟩
      refine ⟨_, rfl, ?_⟩
      have HIn := Aside0.mk (HIn.out.step hb_1)
      have hb_ : Below w6_11d.heap.size w6_11d w8_10 := hb_1
      have HB := Aside0.mk (below_step HB.out hb_)
      refine hK.out _ _ hb_ (fun hHeld => ?_)
      clear hK K
      refine wpAnyLast_str (S' := fun x_ => Below w8_10.heap.size w8_10 x_) (fun x_ hx_ => below_step hHeld hx_) (Below.refl _ _) ?_
      clear hHeld
      (try clear hb)
      clear hb_
      have HS := Aside0.mk (Below.refl w8_10.heap.size w8_10)
      refine norm_ (a' := ?_) ?_ ?_
      rotate_left
      ·show Act.put _ (some 40) _ = _
       simp only [Act.put, List.setIfInBounds_toArray, List.set_cons_zero, List.set_cons_succ, i64_w, i32_w]
       rfl
      refine pure_ (i := 11) (N := (some 41)) (v := ?_) (a' := ?_) #[true, true, true, true, true, true, true, true, true, true, true, true] rfl rfl (any_of HT_.out (by kernel_rfl)) (fun _ _ _ h => h) (Or.inl ⟨by rfl, ?_⟩) ?_ ?_
      rotate_left
      ·intro w_
       go_simp
       try with_reducible rfl
      rotate_left
      ·simp only [Act.put, List.setIfInBounds_toArray, List.set_cons_zero, List.set_cons_succ, i64_w, i32_w]
       rfl
      refine done_ (done_of HT_.out (by kernel_rfl)) ?_
      clear HB HSa K0 K1 K2
      cases sm with
      | true =>
       have HE : Aside0 (insE desc S x = S) := ⟨insE_same Hplt.out HP.out Hah.out Hsm.out⟩
       go_wp2
       go_roundw
       case rel => exact ⟨i + 1, _, by have := Hlt.out; omega, rfl, by rw [w64_in _ (by have := Hlt.out; have := HM.out; omega)]; rfl, ⟨HIn.out.below⟩, ⟨by rw [HNx.out, HE.out]; exact HIn.out.own⟩⟩
       case measure => have h1 := Hlt.out; have h2 := HM.out; rw [w64_in _ (by omega)]; simp [intOf]; omega
      | false =>
       have HB : Aside0 (Below w8_10.heap.size w8_10 w8_10) := ⟨Below.refl _ _⟩
       have HPi := Aside0.mk (insE_put Hplt.out HP.out Hah.out Hsm.out)
       have sl3 : ∀ V, _ = _ := fun V => slice_max (some a) S.length cv p V (by have h1 := HPl.out; have h2 := HIn.out.row.2; omega)
       have sll : ∀ V, _ = _ := fun V => slice_low (some a) S.length cv p V HPl.out HIn.out.row.2
       obtain ⟨D, hD⟩ : ∃ D, D = dropA (some a) p cv := ⟨_, rfl⟩
       obtain ⟨q, hq⟩ : ∃ q, q = S.length - p := ⟨_, rfl⟩
       obtain ⟨r, hr⟩ : ∃ r, r = cv - p := ⟨_, rfl⟩
       rw [← hD, ← hq, ← hr] at sll
       have HD := Aside0.mk (And.intro hD (And.intro hq hr))
       clear hD hq hr hp
       go_wp2_with fail
       refine start_ (n := 12) (S := fun x_ => Below w8_10.heap.size w8_10 x_) (ds := []) #[false, false, false, false, false, false, false, false, false, false, false, false] (by kernel_rfl) rfl rfl (pw_below_drewN (Below.refl _ _) 1) (fun hHeld => ?_)
       refine with_tabW tab_magpieref04_Sort_9 bits_magpieref04_Sort_9 (fun HT_ HW_ => ?_)
       have HB := Aside0.mk (pw_below_drewN HB.out 1)
       change Aside0 (Below _ _ (World.drew w8_10)) at HB
       change Below _ _ (World.drew w8_10) at hHeld
       have hSz : (World.drew w8_10).heap.size = w8_10.heap.size := rfl
       have HIn := Aside0.mk (show InS w (World.drew w8_10) j x _ _ S from HIn.out.drew)
       refine wpAnyLast_str (S' := fun x_ => Below (World.drew w8_10).heap.size (World.drew w8_10) x_) (fun x_ hx_ => below_step hHeld hx_) (Below.refl _ _) ?_
       clear hHeld hSz
       generalize World.drew w8_10 = w8_10d at *
       have HS := Aside0.mk (Below.refl w8_10d.heap.size w8_10d)
       refine pure_ (i := 0) (N := (some 42)) (v := ?_) (a' := ?_) #[true, false, false, false, false, false, false, false, false, false, false, false] rfl rfl (any_of HT_.out (by kernel_rfl)) (fun _ _ _ h => h) (Or.inl ⟨by rfl, ?_⟩) ?_ ?_
       rotate_left
       ·intro w_
        go_simp
        try with_reducible rfl
       rotate_left
       ·simp only [Act.put, List.setIfInBounds_toArray, List.set_cons_zero, List.set_cons_succ, i64_w, i32_w]
        rfl
       refine pure_ (i := 1) (N := (some 43)) (v := ?_) (a' := ?_) #[true, true, false, false, false, false, false, false, false, false, false, false] rfl rfl (any_of HT_.out (by kernel_rfl)) (fun _ _ _ h => h) (Or.inl ⟨by rfl, ?_⟩) ?_ ?_
       rotate_left
       ·intro w_
        go_simp
        try with_reducible rfl
       rotate_left
       ·simp only [Act.put, List.setIfInBounds_toArray, List.set_cons_zero, List.set_cons_succ, i64_w, i32_w]
        rfl
       refine pure_ (i := 2) (N := (some 44)) (v := ?_) (a' := ?_) #[true, true, true, false, false, false, false, false, false, false, false, false] rfl rfl (any_of HT_.out (by kernel_rfl)) (fun _ _ _ h => h) (Or.inl ⟨by rfl, ?_⟩) ?_ ?_
       rotate_left
       ·intro w_
        go_simp
        try with_reducible rfl
       rotate_left
       ·simp only [Act.put, List.setIfInBounds_toArray, List.set_cons_zero, List.set_cons_succ, i64_w, i32_w]
        rfl
       refine pure_ (i := 3) (N := (some 45)) (v := ?_) (a' := ?_) #[true, true, true, true, false, false, false, false, false, false, false, false] rfl rfl (any_of HT_.out (by kernel_rfl)) (fun _ _ _ h => h) (Or.inl ⟨by rfl, ?_⟩) ?_ ?_
       rotate_left
       ·intro w_
        go_simp
        try with_reducible rfl
       rotate_left
       ·simp only [Act.put, List.setIfInBounds_toArray, List.set_cons_zero, List.set_cons_succ, i64_w, i32_w]
        rfl
       refine pure_ (i := 6) (N := (some 48)) (v := ?_) (a' := ?_) #[true, true, true, true, false, false, true, false, false, false, false, false] rfl rfl (any_of HT_.out (by kernel_rfl)) (fun _ _ _ h => h) (Or.inl ⟨by rfl, ?_⟩) ?_ ?_
       rotate_left
       ·intro w_
        go_simp
        try with_reducible rfl
       rotate_left
       ·simp only [Act.put, List.setIfInBounds_toArray, List.set_cons_zero, List.set_cons_succ, i64_w, i32_w]
        rfl
       refine pure_ (i := 7) (N := (some 49)) (v := ?_) (a' := ?_) #[true, true, true, true, false, false, true, true, false, false, false, false] rfl rfl (any_of HT_.out (by kernel_rfl)) (fun _ _ _ h => h) (Or.inl ⟨by rfl, ?_⟩) ?_ ?_
       rotate_left
       ·intro w_
        go_simp
        try with_reducible rfl
       rotate_left
       ·simp only [Act.put, List.setIfInBounds_toArray, List.set_cons_zero, List.set_cons_succ, i64_w, i32_w]
        rfl
       refine pure_ (i := 8) (N := (some 50)) (v := ?_) (a' := ?_) #[true, true, true, true, false, false, true, true, true, false, false, false] rfl rfl (any_of HT_.out (by kernel_rfl)) (fun _ _ _ h => h) (Or.inl ⟨by rfl, ?_⟩) ?_ ?_
       rotate_left
       ·intro w_
        go_simp
        try with_reducible rfl
       rotate_left
       ·simp only [Act.put, List.setIfInBounds_toArray, List.set_cons_zero, List.set_cons_succ, i64_w, i32_w]
        rfl
       refine take_ (i := 4) (N := (some 46)) (v := ?_) (a' := ?_) #[true, true, true, true, true, false, true, true, true, false, false, false] rfl rfl (take_ofW HT_.out HW_.out (by kernel_rfl)) (fun _ _ _ h => h) (Or.inl ⟨by rfl, ?_⟩) (Below.refl _ _) ?_ ?_
       rotate_left
       ·intro Wx hWx
        have h0 := (HIn.out.box.below hWx).c0
        have h1 := (HIn.out.box.below hWx).c1
        have h2 := (HIn.out.box.below hWx).c2
        go_simp
        try with_reducible rfl
       rotate_left
       ·simp only [Act.put, List.setIfInBounds_toArray, List.set_cons_zero, List.set_cons_succ, i64_w, i32_w]
        rfl
       refine one_ (i := 5) (N := (some 47)) #[true, true, true, true, true, true, true, true, true, false, false, false] rfl rfl (one_of HT_.out (by kernel_rfl)) (by decide) (fun K hK => ?_)
       refine value_ (w1 := ?_) (v := ?_) (by rfl) rfl ?_ ?_
       rotate_left 2
       ·go_simp
        constructor
        ·rfl
        ·rfl
       have hb : Below w8_10d.heap.size w8_10d (w8_10d.alloc (.cells #[.int .i64 x.at_, .slice x.A x.ls.length x.c, .string x.line] 26)) := below_step HS.out (below_alloc (Below.refl _ _) _)
       obtain ⟨v9, w9x, cap10, w10x, hr9, hb9, hr10, ho10, hb10⟩ := put_in w.heap.size w8_10d x (some a) cv S p HIn.out.row.1 HIn.out.row.2 HPl.out HIn.out.below.size HSl.out
       obtain ⟨m10, hm10⟩ : ∃ m, m = (S.take p ++ x :: S.drop p).length := ⟨_, rfl⟩
       rw [← hm10] at hr10 ho10
       clear hm10
       rw [← HD.out.1, ← HD.out.2.1, ← HD.out.2.2] at hr9
       have hr9 := Aside0.mk hr9
       have hb9 := Aside0.mk hb9
       have hr10 := Aside0.mk hr10
       have ho10 := Aside0.mk ho10
       have hb10 := Aside0.mk hb10
       have HV0 := HIn
       have hb_ : Below w8_10d.heap.size w8_10d (w8_10d.alloc (.cells #[.int .i64 x.at_, .slice x.A x.ls.length x.c, .string x.line] 26)) := hb
       refine hK.out _ _ hb_ (fun hHeld => ?_)
       clear hK K
       clear hHeld
       (try clear hb)
       generalize (w8_10d.alloc (.cells #[.int .i64 x.at_, .slice x.A x.ls.length x.c, .string x.line] 26)) = w9_5 at *
       have HS := Aside0.mk hb_
       clear hb_
       refine norm_ (a' := ?_) ?_ ?_
       rotate_left
       ·show Act.put _ (some 47) _ = _
        simp only [Act.put, List.setIfInBounds_toArray, List.set_cons_zero, List.set_cons_succ, i64_w, i32_w]
        rfl
       refine one_ (i := 9) (N := (some 51)) #[true, true, true, true, true, true, true, true, true, true, false, false] rfl rfl (one_of HT_.out (by kernel_rfl)) (by decide) (fun K hK => ?_)
       refine value_ (w1 := ?_) (v := ?_) (by rfl) rfl ?_ ?_
       rotate_left 2
       ·refine (append_run (v := Value.slice (some ⟨w8_10d.heap.size, 0, none⟩) 1 1) (y := Value.slice D q r) hr9.out rfl rfl).trans ?_; simp only [Result.ok.injEq, Next.value.injEq]; constructor <;> rfl
       have hb : Below w8_10d.heap.size w8_10d (w9x) := hb9.out
       have hb_ : Below w8_10d.heap.size w8_10d (w9x) := hb
       refine hK.out _ _ hb_ (fun hHeld => ?_)
       clear hK K
       clear hHeld
       (try clear hb)
       generalize (w9x) = w9_9 at *
       have HS := Aside0.mk hb_
       clear hb_
       refine norm_ (a' := ?_) ?_ ?_
       rotate_left
       ·show Act.put _ (some 51) _ = _
        simp only [Act.put, List.setIfInBounds_toArray, List.set_cons_zero, List.set_cons_succ, i64_w, i32_w]
        rfl
       refine one_ (i := 10) (N := (some 52)) #[true, true, true, true, true, true, true, true, true, true, true, false] rfl rfl (one_of HT_.out (by kernel_rfl)) (by decide) (fun K hK => ?_)
       refine value_ (w1 := ?_) (v := ?_) (by rfl) rfl ?_ ?_
       rotate_left 2
       ·refine (append_run (v := Value.slice (some a) p p) (y := v9) hr10.out rfl rfl).trans ?_; simp only [Result.ok.injEq, Next.value.injEq]; constructor <;> rfl
       have hb : Below w8_10d.heap.size w8_10d (w10x) := hb10.out
       have hb_ : Below w8_10d.heap.size w8_10d (w10x) := hb
       refine hK.out _ _ hb_ (fun hHeld => ?_)
       clear hK K
       clear hHeld
       (try clear hb)
       generalize (w10x) = w9_10 at *
       have HS := Aside0.mk hb_
       clear hb_
       refine norm_ (a' := ?_) ?_ ?_
       rotate_left
       ·show Act.put _ (some 52) _ = _
        simp only [Act.put, List.setIfInBounds_toArray, List.set_cons_zero, List.set_cons_succ, i64_w, i32_w]
        rfl
       refine pure_ (i := 11) (N := (some 5)) (v := ?_) (a' := ?_) #[true, true, true, true, true, true, true, true, true, true, true, true] rfl rfl (any_of HT_.out (by kernel_rfl)) (fun _ _ _ h => h) (Or.inl ⟨by rfl, ?_⟩) ?_ ?_
       rotate_left
       ·intro w_
        go_simp
        try with_reducible rfl
       rotate_left
       ·simp only [Act.put, List.setIfInBounds_toArray, List.set_cons_zero, List.set_cons_succ, i64_w, i32_w]
        rfl
       refine done_ (done_of HT_.out (by kernel_rfl)) ?_
       go_wp2_with fail
       go_roundw
       case rel => exact ⟨i + 1, _, by have := Hlt.out; omega, rfl, by rw [w64_in _ (by have := Hlt.out; have := HM.out; omega)]; rfl, ⟨below_step HV0.out.below hb10.out⟩, ⟨by rw [HNx.out, HPi.out]; exact ho10.out⟩⟩
       case measure => have h1 := Hlt.out; have h2 := HM.out; rw [w64_in _ (by omega)]; simp [intOf]; omega
    ·have hpe : p = S.length := by omega
     have HPe : Aside0 (insE desc S x = S.take p ++ x :: S.drop p) := ⟨by
      have h := insE_end (desc := desc) (S := S) (e := x) (by rw [← hpe]; exact HP.out)
      rw [← hpe] at h
      exact h⟩
     have jl : decide ((p : Int) < (S.length : Int)) = false := decide_eq_false (by omega)
     have jn : decide (p < S.length) = false := decide_eq_false (by omega)
     have HB : Aside0 (Below wr.heap.size wr wr) := ⟨Below.refl _ _⟩
     clear hlt hpe
     go_wp2_with fail
     refine start_ (n := 13) (S := fun x_ => Below wr.heap.size wr x_) (ds := []) #[false, false, false, false, false, false, false, false, false, false, false, false, false] (by kernel_rfl) rfl rfl (pw_below_drewN (Below.refl _ _) 1) (fun hHeld => ?_)
     refine with_tabW tab_magpieref04_Sort_6 bits_magpieref04_Sort_6 (fun HT_ HW_ => ?_)
     have HB := Aside0.mk (pw_below_drewN HB.out 1)
     change Aside0 (Below _ _ (World.drew wr)) at HB
     change Below _ _ (World.drew wr) at hHeld
     have hSz : (World.drew wr).heap.size = wr.heap.size := rfl
     have HIn := Aside0.mk (show InS w (World.drew wr) j x _ _ S from HIn.out.drew)
     refine wpAnyLast_str (S' := fun x_ => Below (World.drew wr).heap.size (World.drew wr) x_) (fun x_ hx_ => below_step hHeld hx_) (Below.refl _ _) ?_
     clear hHeld hSz
     generalize World.drew wr = wrd at *
     have HS := Aside0.mk (Below.refl wrd.heap.size wrd)
     refine pure_ (i := 0) (N := (some 15)) (v := ?_) (a' := ?_) #[true, false, false, false, false, false, false, false, false, false, false, false, false] rfl rfl (any_of HT_.out (by kernel_rfl)) (fun _ _ _ h => h) (Or.inl ⟨by rfl, ?_⟩) ?_ ?_
     rotate_left
     ·intro w_
      go_simp
      try with_reducible rfl
     rotate_left
     ·simp only [Act.put, List.setIfInBounds_toArray, List.set_cons_zero, List.set_cons_succ, i64_w, i32_w]
      rfl
     refine pure_ (i := 1) (N := (some 16)) (v := ?_) (a' := ?_) #[true, true, false, false, false, false, false, false, false, false, false, false, false] rfl rfl (any_of HT_.out (by kernel_rfl)) (fun _ _ _ h => h) (Or.inl ⟨by rfl, ?_⟩) ?_ ?_
     rotate_left
     ·intro w_
      go_simp
      try with_reducible rfl
     rotate_left
     ·simp only [Act.put, List.setIfInBounds_toArray, List.set_cons_zero, List.set_cons_succ, i64_w, i32_w]
      rfl
     refine pure_ (i := 2) (N := (some 17)) (v := ?_) (a' := ?_) #[true, true, true, false, false, false, false, false, false, false, false, false, false] rfl rfl (any_of HT_.out (by kernel_rfl)) (fun _ _ _ h => h) (Or.inl ⟨by rfl, ?_⟩) ?_ ?_
     rotate_left
     ·intro w_
      go_simp
      try with_reducible rfl
     rotate_left
     ·simp only [Act.put, List.setIfInBounds_toArray, List.set_cons_zero, List.set_cons_succ, i64_w, i32_w]
      rfl
     refine pure_ (i := 3) (N := (some 18)) (v := ?_) (a' := ?_) #[true, true, true, true, false, false, false, false, false, false, false, false, false] rfl rfl (any_of HT_.out (by kernel_rfl)) (fun _ _ _ h => h) (Or.inl ⟨by rfl, ?_⟩) ?_ ?_
     rotate_left
     ·intro w_
      go_simp
      try with_reducible rfl
     rotate_left
     ·simp only [Act.put, List.setIfInBounds_toArray, List.set_cons_zero, List.set_cons_succ, i64_w, i32_w]
      rfl
     refine pure_ (i := 4) (N := (some 19)) (v := ?_) (a' := ?_) #[true, true, true, true, true, false, false, false, false, false, false, false, false] rfl rfl (any_of HT_.out (by kernel_rfl)) (fun _ _ _ h => h) (Or.inl ⟨by rfl, ?_⟩) ?_ ?_
     rotate_left
     ·intro w_
      go_simp
      try with_reducible rfl
     rotate_left
     ·simp only [Act.put, List.setIfInBounds_toArray, List.set_cons_zero, List.set_cons_succ, i64_w, i32_w]
      rfl
     refine pure_ (i := 5) (N := (some 20)) (v := undef) (a' := ?_) #[true, true, true, true, true, true, false, false, false, false, false, false, false] rfl rfl (any_of HT_.out (by kernel_rfl)) (fun _ _ _ h => h) (Or.inr ⟨by rfl, rfl⟩) ?_ ?_
     rotate_left
     ·simp only [Act.put, List.setIfInBounds_toArray, List.set_cons_zero, List.set_cons_succ, i64_w, i32_w]
      rfl
     refine pure_ (i := 6) (N := (some 21)) (v := undef) (a' := ?_) #[true, true, true, true, true, true, true, false, false, false, false, false, false] rfl rfl (any_of HT_.out (by kernel_rfl)) (fun _ _ _ h => h) (Or.inr ⟨by rfl, rfl⟩) ?_ ?_
     rotate_left
     ·simp only [Act.put, List.setIfInBounds_toArray, List.set_cons_zero, List.set_cons_succ, i64_w, i32_w]
      rfl
     refine pure_ (i := 7) (N := (some 22)) (v := undef) (a' := ?_) #[true, true, true, true, true, true, true, true, false, false, false, false, false] rfl rfl (any_of HT_.out (by kernel_rfl)) (fun _ _ _ h => h) (Or.inr ⟨by rfl, rfl⟩) ?_ ?_
     rotate_left
     ·simp only [Act.put, List.setIfInBounds_toArray, List.set_cons_zero, List.set_cons_succ, i64_w, i32_w]
      rfl
     refine pure_ (i := 8) (N := (some 23)) (v := undef) (a' := ?_) #[true, true, true, true, true, true, true, true, true, false, false, false, false] rfl rfl (any_of HT_.out (by kernel_rfl)) (fun _ _ _ h => h) (Or.inr ⟨by rfl, rfl⟩) ?_ ?_
     rotate_left
     ·simp only [Act.put, List.setIfInBounds_toArray, List.set_cons_zero, List.set_cons_succ, i64_w, i32_w]
      rfl
     refine pure_ (i := 9) (N := (some 24)) (v := undef) (a' := ?_) #[true, true, true, true, true, true, true, true, true, true, false, false, false] rfl rfl (any_of HT_.out (by kernel_rfl)) (fun _ _ _ h => h) (Or.inr ⟨by rfl, rfl⟩) ?_ ?_
     rotate_left
     ·simp only [Act.put, List.setIfInBounds_toArray, List.set_cons_zero, List.set_cons_succ, i64_w, i32_w]
      rfl
     refine pure_ (i := 10) (N := (some 25)) (v := undef) (a' := ?_) #[true, true, true, true, true, true, true, true, true, true, true, false, false] rfl rfl (any_of HT_.out (by kernel_rfl)) (fun _ _ _ h => h) (Or.inr ⟨by rfl, rfl⟩) ?_ ?_
     rotate_left
     ·simp only [Act.put, List.setIfInBounds_toArray, List.set_cons_zero, List.set_cons_succ, i64_w, i32_w]
      rfl
     refine pure_ (i := 11) (N := (some 26)) (v := undef) (a' := ?_) #[true, true, true, true, true, true, true, true, true, true, true, true, false] rfl rfl (any_of HT_.out (by kernel_rfl)) (fun _ _ _ h => h) (Or.inr ⟨by rfl, rfl⟩) ?_ ?_
     rotate_left
     ·simp only [Act.put, List.setIfInBounds_toArray, List.set_cons_zero, List.set_cons_succ, i64_w, i32_w]
      rfl
     refine pure_ (i := 12) (N := (some 27)) (v := ?_) (a' := ?_) #[true, true, true, true, true, true, true, true, true, true, true, true, true] rfl rfl (any_of HT_.out (by kernel_rfl)) (fun _ _ _ h => h) (Or.inl ⟨by rfl, ?_⟩) ?_ ?_
     rotate_left
     ·intro w_
      go_simp
      try with_reducible rfl
     rotate_left
     ·simp only [Act.put, List.setIfInBounds_toArray, List.set_cons_zero, List.set_cons_succ, i64_w, i32_w]
      rfl
     refine done_ (done_of HT_.out (by kernel_rfl)) ?_
     have HB : Aside0 (Below wrd.heap.size wrd wrd) := ⟨Below.refl _ _⟩
     go_wp2_with fail
     refine start_ (n := 12) (S := fun x_ => Below wrd.heap.size wrd x_) (ds := []) #[false, false, false, false, false, false, false, false, false, false, false, false] (by kernel_rfl) rfl rfl (pw_below_drewN (Below.refl _ _) 1) (fun hHeld => ?_)
     refine with_tabW tab_magpieref04_Sort_8 bits_magpieref04_Sort_8 (fun HT_ HW_ => ?_)
     have HB := Aside0.mk (pw_below_drewN HB.out 1)
     change Aside0 (Below _ _ (World.drew wrd)) at HB
     change Below _ _ (World.drew wrd) at hHeld
     have hSz : (World.drew wrd).heap.size = wrd.heap.size := rfl
     have HIn := Aside0.mk (show InS w (World.drew wrd) j x _ _ S from HIn.out.drew)
     refine wpAnyLast_str (S' := fun x_ => Below (World.drew wrd).heap.size (World.drew wrd) x_) (fun x_ hx_ => below_step hHeld hx_) (Below.refl _ _) ?_
     clear hHeld hSz
     generalize World.drew wrd = wrdd at *
     have HS := Aside0.mk (Below.refl wrdd.heap.size wrdd)
     refine pure_ (i := 0) (N := (some 30)) (v := ?_) (a' := ?_) #[true, false, false, false, false, false, false, false, false, false, false, false] rfl rfl (any_of HT_.out (by kernel_rfl)) (fun _ _ _ h => h) (Or.inl ⟨by rfl, ?_⟩) ?_ ?_
     rotate_left
     ·intro w_
      go_simp
      try with_reducible rfl
     rotate_left
     ·simp only [Act.put, List.setIfInBounds_toArray, List.set_cons_zero, List.set_cons_succ, i64_w, i32_w]
      rfl
     refine pure_ (i := 1) (N := (some 31)) (v := ?_) (a' := ?_) #[true, true, false, false, false, false, false, false, false, false, false, false] rfl rfl (any_of HT_.out (by kernel_rfl)) (fun _ _ _ h => h) (Or.inl ⟨by rfl, ?_⟩) ?_ ?_
     rotate_left
     ·intro w_
      go_simp
      try with_reducible rfl
     rotate_left
     ·simp only [Act.put, List.setIfInBounds_toArray, List.set_cons_zero, List.set_cons_succ, i64_w, i32_w]
      rfl
     refine pure_ (i := 2) (N := (some 32)) (v := ?_) (a' := ?_) #[true, true, true, false, false, false, false, false, false, false, false, false] rfl rfl (any_of HT_.out (by kernel_rfl)) (fun _ _ _ h => h) (Or.inl ⟨by rfl, ?_⟩) ?_ ?_
     rotate_left
     ·intro w_
      go_simp
      try with_reducible rfl
     rotate_left
     ·simp only [Act.put, List.setIfInBounds_toArray, List.set_cons_zero, List.set_cons_succ, i64_w, i32_w]
      rfl
     refine pure_ (i := 3) (N := (some 33)) (v := ?_) (a' := ?_) #[true, true, true, true, false, false, false, false, false, false, false, false] rfl rfl (any_of HT_.out (by kernel_rfl)) (fun _ _ _ h => h) (Or.inl ⟨by rfl, ?_⟩) ?_ ?_
     rotate_left
     ·intro w_
      go_simp
      try with_reducible rfl
     rotate_left
     ·simp only [Act.put, List.setIfInBounds_toArray, List.set_cons_zero, List.set_cons_succ, i64_w, i32_w]
      rfl
     refine pure_ (i := 4) (N := (some 34)) (v := ?_) (a' := ?_) #[true, true, true, true, true, false, false, false, false, false, false, false] rfl rfl (any_of HT_.out (by kernel_rfl)) (fun _ _ _ h => h) (Or.inl ⟨by rfl, ?_⟩) ?_ ?_
     rotate_left
     ·intro w_
      go_simp
      try with_reducible rfl
     rotate_left
     ·simp only [Act.put, List.setIfInBounds_toArray, List.set_cons_zero, List.set_cons_succ, i64_w, i32_w]
      rfl
     refine pure_ (i := 5) (N := (some 35)) (v := undef) (a' := ?_) #[true, true, true, true, true, true, false, false, false, false, false, false] rfl rfl (any_of HT_.out (by kernel_rfl)) (fun _ _ _ h => h) (Or.inr ⟨by rfl, rfl⟩) ?_ ?_
     rotate_left
     ·simp only [Act.put, List.setIfInBounds_toArray, List.set_cons_zero, List.set_cons_succ, i64_w, i32_w]
      rfl
     refine pure_ (i := 6) (N := (some 36)) (v := undef) (a' := ?_) #[true, true, true, true, true, true, true, false, false, false, false, false] rfl rfl (any_of HT_.out (by kernel_rfl)) (fun _ _ _ h => h) (Or.inr ⟨by rfl, rfl⟩) ?_ ?_
     rotate_left
     ·simp only [Act.put, List.setIfInBounds_toArray, List.set_cons_zero, List.set_cons_succ, i64_w, i32_w]
      rfl
     refine pure_ (i := 7) (N := (some 37)) (v := undef) (a' := ?_) #[true, true, true, true, true, true, true, true, false, false, false, false] rfl rfl (any_of HT_.out (by kernel_rfl)) (fun _ _ _ h => h) (Or.inr ⟨by rfl, rfl⟩) ?_ ?_
     rotate_left
     ·simp only [Act.put, List.setIfInBounds_toArray, List.set_cons_zero, List.set_cons_succ, i64_w, i32_w]
      rfl
     refine pure_ (i := 8) (N := (some 38)) (v := undef) (a' := ?_) #[true, true, true, true, true, true, true, true, true, false, false, false] rfl rfl (any_of HT_.out (by kernel_rfl)) (fun _ _ _ h => h) (Or.inr ⟨by rfl, rfl⟩) ?_ ?_
     rotate_left
     ·simp only [Act.put, List.setIfInBounds_toArray, List.set_cons_zero, List.set_cons_succ, i64_w, i32_w]
      rfl
     refine pure_ (i := 9) (N := (some 39)) (v := undef) (a' := ?_) #[true, true, true, true, true, true, true, true, true, true, false, false] rfl rfl (any_of HT_.out (by kernel_rfl)) (fun _ _ _ h => h) (Or.inr ⟨by rfl, rfl⟩) ?_ ?_
     rotate_left
     ·simp only [Act.put, List.setIfInBounds_toArray, List.set_cons_zero, List.set_cons_succ, i64_w, i32_w]
      rfl
     refine pure_ (i := 10) (N := (some 40)) (v := undef) (a' := ?_) #[true, true, true, true, true, true, true, true, true, true, true, false] rfl rfl (any_of HT_.out (by kernel_rfl)) (fun _ _ _ h => h) (Or.inr ⟨by rfl, rfl⟩) ?_ ?_
     rotate_left
     ·simp only [Act.put, List.setIfInBounds_toArray, List.set_cons_zero, List.set_cons_succ, i64_w, i32_w]
      rfl
     refine pure_ (i := 11) (N := (some 41)) (v := ?_) (a' := ?_) #[true, true, true, true, true, true, true, true, true, true, true, true] rfl rfl (any_of HT_.out (by kernel_rfl)) (fun _ _ _ h => h) (Or.inl ⟨by rfl, ?_⟩) ?_ ?_
     rotate_left
     ·intro w_
      go_simp
      try with_reducible rfl
     rotate_left
     ·simp only [Act.put, List.setIfInBounds_toArray, List.set_cons_zero, List.set_cons_succ, i64_w, i32_w]
      rfl
     refine done_ (done_of HT_.out (by kernel_rfl)) ?_
     have HB : Aside0 (Below wrdd.heap.size wrdd wrdd) := ⟨Below.refl _ _⟩
     have HPi := Aside0.mk (HPe.out)
     have sl3 : ∀ V, _ = _ := fun V => slice_max Av S.length cv p V (by have h1 := HPl.out; have h2 := HIn.out.row.2; omega)
     have sll : ∀ V, _ = _ := fun V => slice_low Av S.length cv p V HPl.out HIn.out.row.2
     obtain ⟨D, hD⟩ : ∃ D, D = dropA Av p cv := ⟨_, rfl⟩
     obtain ⟨q, hq⟩ : ∃ q, q = S.length - p := ⟨_, rfl⟩
     obtain ⟨r, hr⟩ : ∃ r, r = cv - p := ⟨_, rfl⟩
     rw [← hD, ← hq, ← hr] at sll
     have HD := Aside0.mk (And.intro hD (And.intro hq hr))
     clear hD hq hr hp
     go_wp2_with fail
     refine start_ (n := 12) (S := fun x_ => Below wrdd.heap.size wrdd x_) (ds := []) #[false, false, false, false, false, false, false, false, false, false, false, false] (by kernel_rfl) rfl rfl (pw_below_drewN (Below.refl _ _) 1) (fun hHeld => ?_)
     refine with_tabW tab_magpieref04_Sort_9 bits_magpieref04_Sort_9 (fun HT_ HW_ => ?_)
     have HB := Aside0.mk (pw_below_drewN HB.out 1)
     change Aside0 (Below _ _ (World.drew wrdd)) at HB
     change Below _ _ (World.drew wrdd) at hHeld
     have hSz : (World.drew wrdd).heap.size = wrdd.heap.size := rfl
     have HIn := Aside0.mk (show InS w (World.drew wrdd) j x _ _ S from HIn.out.drew)
     refine wpAnyLast_str (S' := fun x_ => Below (World.drew wrdd).heap.size (World.drew wrdd) x_) (fun x_ hx_ => below_step hHeld hx_) (Below.refl _ _) ?_
     clear hHeld hSz
     generalize World.drew wrdd = wrddd at *
     have HS := Aside0.mk (Below.refl wrddd.heap.size wrddd)
     refine pure_ (i := 0) (N := (some 42)) (v := ?_) (a' := ?_) #[true, false, false, false, false, false, false, false, false, false, false, false] rfl rfl (any_of HT_.out (by kernel_rfl)) (fun _ _ _ h => h) (Or.inl ⟨by rfl, ?_⟩) ?_ ?_
     rotate_left
     ·intro w_
      go_simp
      try with_reducible rfl
     rotate_left
     ·simp only [Act.put, List.setIfInBounds_toArray, List.set_cons_zero, List.set_cons_succ, i64_w, i32_w]
      rfl
     refine pure_ (i := 1) (N := (some 43)) (v := ?_) (a' := ?_) #[true, true, false, false, false, false, false, false, false, false, false, false] rfl rfl (any_of HT_.out (by kernel_rfl)) (fun _ _ _ h => h) (Or.inl ⟨by rfl, ?_⟩) ?_ ?_
     rotate_left
     ·intro w_
      go_simp
      try with_reducible rfl
     rotate_left
     ·simp only [Act.put, List.setIfInBounds_toArray, List.set_cons_zero, List.set_cons_succ, i64_w, i32_w]
      rfl
     refine pure_ (i := 2) (N := (some 44)) (v := ?_) (a' := ?_) #[true, true, true, false, false, false, false, false, false, false, false, false] rfl rfl (any_of HT_.out (by kernel_rfl)) (fun _ _ _ h => h) (Or.inl ⟨by rfl, ?_⟩) ?_ ?_
     rotate_left
     ·intro w_
      go_simp
      try with_reducible rfl
     rotate_left
     ·simp only [Act.put, List.setIfInBounds_toArray, List.set_cons_zero, List.set_cons_succ, i64_w, i32_w]
      rfl
     refine pure_ (i := 3) (N := (some 45)) (v := ?_) (a' := ?_) #[true, true, true, true, false, false, false, false, false, false, false, false] rfl rfl (any_of HT_.out (by kernel_rfl)) (fun _ _ _ h => h) (Or.inl ⟨by rfl, ?_⟩) ?_ ?_
     rotate_left
     ·intro w_
      go_simp
      try with_reducible rfl
     rotate_left
     ·simp only [Act.put, List.setIfInBounds_toArray, List.set_cons_zero, List.set_cons_succ, i64_w, i32_w]
      rfl
     refine pure_ (i := 6) (N := (some 48)) (v := ?_) (a' := ?_) #[true, true, true, true, false, false, true, false, false, false, false, false] rfl rfl (any_of HT_.out (by kernel_rfl)) (fun _ _ _ h => h) (Or.inl ⟨by rfl, ?_⟩) ?_ ?_
     rotate_left
     ·intro w_
      go_simp
      try with_reducible rfl
     rotate_left
     ·simp only [Act.put, List.setIfInBounds_toArray, List.set_cons_zero, List.set_cons_succ, i64_w, i32_w]
      rfl
     refine pure_ (i := 7) (N := (some 49)) (v := ?_) (a' := ?_) #[true, true, true, true, false, false, true, true, false, false, false, false] rfl rfl (any_of HT_.out (by kernel_rfl)) (fun _ _ _ h => h) (Or.inl ⟨by rfl, ?_⟩) ?_ ?_
     rotate_left
     ·intro w_
      go_simp
      try with_reducible rfl
     rotate_left
     ·simp only [Act.put, List.setIfInBounds_toArray, List.set_cons_zero, List.set_cons_succ, i64_w, i32_w]
      rfl
     refine pure_ (i := 8) (N := (some 50)) (v := ?_) (a' := ?_) #[true, true, true, true, false, false, true, true, true, false, false, false] rfl rfl (any_of HT_.out (by kernel_rfl)) (fun _ _ _ h => h) (Or.inl ⟨by rfl, ?_⟩) ?_ ?_
     rotate_left
     ·intro w_
      go_simp
      try with_reducible rfl
     rotate_left
     ·simp only [Act.put, List.setIfInBounds_toArray, List.set_cons_zero, List.set_cons_succ, i64_w, i32_w]
      rfl
     refine take_ (i := 4) (N := (some 46)) (v := ?_) (a' := ?_) #[true, true, true, true, true, false, true, true, true, false, false, false] rfl rfl (take_ofW HT_.out HW_.out (by kernel_rfl)) (fun _ _ _ h => h) (Or.inl ⟨by rfl, ?_⟩) (Below.refl _ _) ?_ ?_
     rotate_left
     ·intro Wx hWx
      have h0 := (HIn.out.box.below hWx).c0
      have h1 := (HIn.out.box.below hWx).c1
      have h2 := (HIn.out.box.below hWx).c2
      go_simp
      try with_reducible rfl
     rotate_left
     ·simp only [Act.put, List.setIfInBounds_toArray, List.set_cons_zero, List.set_cons_succ, i64_w, i32_w]
      rfl
     refine one_ (i := 5) (N := (some 47)) #[true, true, true, true, true, true, true, true, true, false, false, false] rfl rfl (one_of HT_.out (by kernel_rfl)) (by decide) (fun K hK => ?_)
     refine value_ (w1 := ?_) (v := ?_) (by rfl) rfl ?_ ?_
     rotate_left 2
     ·go_simp
      constructor
      ·rfl
      ·rfl
     have hb : Below wrddd.heap.size wrddd (wrddd.alloc (.cells #[.int .i64 x.at_, .slice x.A x.ls.length x.c, .string x.line] 26)) := below_step HS.out (below_alloc (Below.refl _ _) _)
     obtain ⟨v9, w9x, cap10, w10x, hr9, hb9, hr10, ho10, hb10⟩ := put_in w.heap.size wrddd x Av cv S p HIn.out.row.1 HIn.out.row.2 HPl.out HIn.out.below.size HSl.out
     obtain ⟨m10, hm10⟩ : ∃ m, m = (S.take p ++ x :: S.drop p).length := ⟨_, rfl⟩
     rw [← hm10] at hr10 ho10
     clear hm10
     rw [← HD.out.1, ← HD.out.2.1, ← HD.out.2.2] at hr9
     have hr9 := Aside0.mk hr9
     have hb9 := Aside0.mk hb9
     have hr10 := Aside0.mk hr10
     have ho10 := Aside0.mk ho10
     have hb10 := Aside0.mk hb10
     have HV0 := HIn
     have hb_ : Below wrddd.heap.size wrddd (wrddd.alloc (.cells #[.int .i64 x.at_, .slice x.A x.ls.length x.c, .string x.line] 26)) := hb
     refine hK.out _ _ hb_ (fun hHeld => ?_)
     clear hK K
     clear hHeld
     (try clear hb)
     generalize (wrddd.alloc (.cells #[.int .i64 x.at_, .slice x.A x.ls.length x.c, .string x.line] 26)) = w9_5 at *
     have HS := Aside0.mk hb_
     clear hb_
     refine norm_ (a' := ?_) ?_ ?_
     rotate_left
     ·show Act.put _ (some 47) _ = _
      simp only [Act.put, List.setIfInBounds_toArray, List.set_cons_zero, List.set_cons_succ, i64_w, i32_w]
      rfl
     refine one_ (i := 9) (N := (some 51)) #[true, true, true, true, true, true, true, true, true, true, false, false] rfl rfl (one_of HT_.out (by kernel_rfl)) (by decide) (fun K hK => ?_)
     refine value_ (w1 := ?_) (v := ?_) (by rfl) rfl ?_ ?_
     rotate_left 2
     ·refine (append_run (v := Value.slice (some ⟨wrddd.heap.size, 0, none⟩) 1 1) (y := Value.slice D q r) hr9.out rfl rfl).trans ?_; simp only [Result.ok.injEq, Next.value.injEq]; constructor <;> rfl
     have hb : Below wrddd.heap.size wrddd (w9x) := hb9.out
     have hb_ : Below wrddd.heap.size wrddd (w9x) := hb
     refine hK.out _ _ hb_ (fun hHeld => ?_)
     clear hK K
     clear hHeld
     (try clear hb)
     generalize (w9x) = w9_9 at *
     have HS := Aside0.mk hb_
     clear hb_
     refine norm_ (a' := ?_) ?_ ?_
     rotate_left
     ·show Act.put _ (some 51) _ = _
      simp only [Act.put, List.setIfInBounds_toArray, List.set_cons_zero, List.set_cons_succ, i64_w, i32_w]
      rfl
     refine one_ (i := 10) (N := (some 52)) #[true, true, true, true, true, true, true, true, true, true, true, false] rfl rfl (one_of HT_.out (by kernel_rfl)) (by decide) (fun K hK => ?_)
     refine value_ (w1 := ?_) (v := ?_) (by rfl) rfl ?_ ?_
     rotate_left 2
     ·refine (append_run (v := Value.slice Av p p) (y := v9) hr10.out rfl rfl).trans ?_; simp only [Result.ok.injEq, Next.value.injEq]; constructor <;> rfl
     have hb : Below wrddd.heap.size wrddd (w10x) := hb10.out
     have hb_ : Below wrddd.heap.size wrddd (w10x) := hb
     refine hK.out _ _ hb_ (fun hHeld => ?_)
     clear hK K
     clear hHeld
     (try clear hb)
     generalize (w10x) = w9_10 at *
     have HS := Aside0.mk hb_
     clear hb_
     refine norm_ (a' := ?_) ?_ ?_
     rotate_left
     ·show Act.put _ (some 52) _ = _
      simp only [Act.put, List.setIfInBounds_toArray, List.set_cons_zero, List.set_cons_succ, i64_w, i32_w]
      rfl
     refine pure_ (i := 11) (N := (some 5)) (v := ?_) (a' := ?_) #[true, true, true, true, true, true, true, true, true, true, true, true] rfl rfl (any_of HT_.out (by kernel_rfl)) (fun _ _ _ h => h) (Or.inl ⟨by rfl, ?_⟩) ?_ ?_
     rotate_left
     ·intro w_
      go_simp
      try with_reducible rfl
     rotate_left
     ·simp only [Act.put, List.setIfInBounds_toArray, List.set_cons_zero, List.set_cons_succ, i64_w, i32_w]
      rfl
     refine done_ (done_of HT_.out (by kernel_rfl)) ?_
     go_wp2_with fail
     go_roundw
     case rel => exact ⟨i + 1, _, by have := Hlt.out; omega, rfl, by rw [w64_in _ (by have := Hlt.out; have := HM.out; omega)]; rfl, ⟨below_step HV0.out.below hb10.out⟩, ⟨by rw [HNx.out, HPi.out]; exact ho10.out⟩⟩
     case measure => have h1 := Hlt.out; have h2 := HM.out; rw [w64_in _ (by omega)]; simp [intOf]; omega
  ·have hpe : i = xs.length := by omega
   have HO2 : Aside0 (OwnE wr w.heap.size v (sortR desc xs)) := ⟨by have h := HO.out; rw [hpe, List.take_length] at h; exact h⟩
   clear hpe hi HO
   go_wp2
   go_ret
   exact ⟨_, rfl, HO2.out, HB.out⟩
end Go.Proofs.YtpleiklodomgiaaGreatDoor.C
end
