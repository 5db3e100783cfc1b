/- Texts of this claim (printed ones, too), put together by a program that left out what the claim does not use. -/
import Derived.Lib.IndexMore
import Derived.Lib.ConvBytes
import Derived.Lib.ItoaNum
import Derived.OwnWalk
import Derived.LoopTactic
import Derived.WalkKit
import Derived.KernelRfl
import Derived.OpenShut
import Derived.Test.YtfejjfbhlmjkeaaDoorModelRows36
import Derived.Test.YtfejjfbhlmjkeaaDoorModelRows35
import Derived.Test.YtfejjfbhlmjkeaaDoorModelRows2
import Derived.Test.YtfejjfbhlmjkeaaDoorModelRows3
import Derived.Test.YtfejjfbhlmjkeaaDoorModelRows4
import Derived.Test.YtfejjfbhlmjkeaaDoorModelRows5
import Derived.Test.YtfejjfbhlmjkeaaDoorModelRows6
import Derived.Test.YtfejjfbhlmjkeaaDoorModelRows9
import Derived.Test.YtfejjfbhlmjkeaaDoorModelRows10
import Derived.Test.YtfejjfbhlmjkeaaDoorModelRows11
import Derived.Test.YtfejjfbhlmjkeaaDoorModelRows12
import Derived.Test.YtfejjfbhlmjkeaaDoorModelRows14
import Derived.Test.YtfejjfbhlmjkeaaDoorModelRows7
import Derived.Test.YtfejjfbhlmjkeaaDoorModelRows21
section
namespace Go.Proofs.YtfejjfbhlmjkeaaDoor.B
end Go.Proofs.YtfejjfbhlmjkeaaDoor.B
namespace Go.Proofs.YtfejjfbhlmjkeaaDoor.Bt
end Go.Proofs.YtfejjfbhlmjkeaaDoor.Bt
namespace Go.Proofs.YtfejjfbhlmjkeaaDoor.CQ
end Go.Proofs.YtfejjfbhlmjkeaaDoor.CQ
namespace Go.Proofs.YtfejjfbhlmjkeaaDoor.N
end Go.Proofs.YtfejjfbhlmjkeaaDoor.N
namespace Go.Proofs.YtfejjfbhlmjkeaaDoor.PModelMore
end Go.Proofs.YtfejjfbhlmjkeaaDoor.PModelMore
namespace Go.Proofs.YtfejjfbhlmjkeaaDoor.Reg
end Go.Proofs.YtfejjfbhlmjkeaaDoor.Reg
namespace Go.Proofs.YtfejjfbhlmjkeaaDoor.Vi
end Go.Proofs.YtfejjfbhlmjkeaaDoor.Vi
set_option linter.unusedVariables false
set_option linter.unusedSimpArgs false
namespace Go.Proofs.YtfejjfbhlmjkeaaDoor.N
open Go.RowKit Go.Proofs.YtfejjfbhlmjkeaaDoorW.PrintWords Go.Proofs.YtfejjfbhlmjkeaaDoorW.PrintLast Go.Proofs.YtfejjfbhlmjkeaaDoor.Bt Go.Proofs.YtfejjfbhlmjkeaaDoor.B Go.Proofs.YtfejjfbhlmjkeaaDoor.Vi Go.Proofs.YtfejjfbhlmjkeaaDoor.Reg
end Go.Proofs.YtfejjfbhlmjkeaaDoor.N
namespace Go.Proofs.YtfejjfbhlmjkeaaDoor.C
open Go.RowKit Go.Sort Go.Proofs.YtfejjfbhlmjkeaaDoorW.PrintWords Go.Proofs.YtfejjfbhlmjkeaaDoorW.PrintLast Go.Proofs.YtfejjfbhlmjkeaaDoorW.PrintMore Go.Proofs.YtfejjfbhlmjkeaaDoor.B Go.Proofs.YtfejjfbhlmjkeaaDoor.Reg Go.Proofs.YtfejjfbhlmjkeaaDoor.PModelMore Go.Proofs.YtfejjfbhlmjkeaaDoor.CQ Go.Proofs.YtfejjfbhlmjkeaaDoor.Vi Go.Proofs.YtfejjfbhlmjkeaaDoor.N Go.Proofs.YtfejjfbhlmjkeaaDoor.Bt
/-- Are they the same? -/
def sameK (a b : Key) : Bool := decide (cmpE a b = 0)
theorem sameK_iff (a b : Key) : sameK a b = true ↔ a = b := by unfold sameK; rw [decide_eq_true_iff]; exact cmpE_c.eq0 a b
theorem sameK_refl (a : Key) : sameK a a = true := (sameK_iff a a).2 rfl
theorem same_key (a b : Key) : (!bef a b && !bef b a) = sameK a b := by
  unfold bef sameK
  have an := cmpE_c.anti a b
  rcases cmpE_c.tri a b with h | h | h
  · rw [h]; rfl
  · rw [h] at an ⊢
    rw [show cmpE b a = 0 by omega]; rfl
  · rw [h] at an ⊢
    rw [show cmpE b a = -1 by omega]; rfl
set_option maxRecDepth 20000 in
theorem refSame_any (x y : Ent) (w : World) (hx : x.In w) (hy : y.In w) : Calls Tryd.prog 41 #[x.val, y.val] w fun e w' => e = .returned (.bool (sameK x.key y.key)) ∧ Below w.heap.size w w' := by
  rw [← same_key]
  obtain ⟨W, hW⟩ : ∃ W, W = (w.alloc (.cells #[.int .i64 x.at_, .slice x.A x.ls.length x.c, .string x.line] 44)).alloc (.cells #[.int .i64 y.at_, .slice y.A y.ls.length y.c, .string y.line] 44) := ⟨_, rfl⟩
  obtain ⟨j, hj⟩ : ∃ j, j = w.heap.size := ⟨_, rfl⟩
  have HB : Aside0 (Below w.heap.size w W) := ⟨by rw [hW]; exact below_alloc (below_alloc (Below.refl _ w) _) _⟩
  have XA : Aside0 (BoxE W j x) := ⟨by rw [hW, hj]; exact blk_alloc (Go.heap_alloc_new w _) _⟩
  have XB : Aside0 (BoxE W (j + 1) y) := ⟨by rw [hW, hj]; exact box1 w _ _⟩
  have IA := Aside0.mk (hx.below HB.out)
  have IB := Aside0.mk (hy.below HB.out)
  obtain ⟨p, hp⟩ : ∃ p, p = bef x.key y.key := ⟨_, rfl⟩
  obtain ⟨q, hq⟩ : ∃ q, q = bef y.key x.key := ⟨_, rfl⟩
  rw [← hp, ← hq]
  have HQ0 : Aside0 (∀ V, Below W.heap.size W V → Calls Tryd.prog 63 #[x.val, y.val] V fun e w' => e = .returned (.bool p) ∧ Below V.heap.size V w') := ⟨fun V h => by rw [hp]; exact before_any x y V (IA.out.below h) (IB.out.below h)⟩
  have HQ1 : Aside0 (∀ V, Below W.heap.size W V → Calls Tryd.prog 63 #[y.val, x.val] V fun e w' => e = .returned (.bool q) ∧ Below V.heap.size V w') := ⟨fun V h => by rw [hq]; exact before_any y x V (IB.out.below h) (IA.out.below h)⟩
  have HW := Aside0.mk hW
  have HJ := Aside0.mk hj
  clear hW hj hp hq hx hy IA IB
  unfold Ent.val at HQ0 HQ1 ⊢
  go_enter Tryd.func41, Tryd.ntmps41
  go_wp2_with fail
  try rw [← HW.out]
  try rw [← HJ.out]
  clear HW HJ
  have a0 : W.cell? _ = _ := XA.out.c0
  have a1 : W.cell? _ = _ := XA.out.c1
  have a2 : W.cell? _ = _ := XA.out.c2
  have b0 : W.cell? _ = _ := XB.out.c0
  have b1 : W.cell? _ = _ := XB.out.c1
  have b2 : W.cell? _ = _ := XB.out.c2
  go_wp2_with fail
  clear a0 a1 a2 b0 b1 b2
  ((refine (HQ0.out _ (Below.refl _ _)).mono ?_); rintro e w1 ⟨rfl, hb1⟩)
  have HB := Aside0.mk (below_step HB.out hb1)
  have XA := Aside0.mk (XA.out.below hb1)
  have XB := Aside0.mk (XB.out.below hb1)
  have HQ1 := Aside0.mk (HQ1.out _ hb1)
  clear hb1 HQ0
  cases p with
  | true =>
    go_wp2
    go_ret
    exact ⟨rfl, HB.out⟩
  | false =>
    have a0 : w1.cell? _ = _ := XA.out.c0
    have a1 : w1.cell? _ = _ := XA.out.c1
    have a2 : w1.cell? _ = _ := XA.out.c2
    have b0 : w1.cell? _ = _ := XB.out.c0
    have b1 : w1.cell? _ = _ := XB.out.c1
    have b2 : w1.cell? _ = _ := XB.out.c2
    go_wp2_with fail
    clear a0 a1 a2 b0 b1 b2
    ((refine (HQ1.out).mono ?_); rintro e w2 ⟨rfl, hb1⟩)
    have HB := Aside0.mk (below_step HB.out hb1)
    clear hb1 HQ1 XA XB
    go_wp2
    go_ret
    exact ⟨by simp, HB.out⟩
end Go.Proofs.YtfejjfbhlmjkeaaDoor.C
end
section
namespace Go.Proofs.YtfejjfbhlmjkeaaDoor.B
end Go.Proofs.YtfejjfbhlmjkeaaDoor.B
namespace Go.Proofs.YtfejjfbhlmjkeaaDoor.CQ
end Go.Proofs.YtfejjfbhlmjkeaaDoor.CQ
namespace Go.Proofs.YtfejjfbhlmjkeaaDoor.PModelMore
end Go.Proofs.YtfejjfbhlmjkeaaDoor.PModelMore
namespace Go.Proofs.YtfejjfbhlmjkeaaDoor.Reg
end Go.Proofs.YtfejjfbhlmjkeaaDoor.Reg
set_option linter.unusedVariables false
set_option linter.unusedSimpArgs false
namespace Go.Proofs.YtfejjfbhlmjkeaaDoor.C
open Go.RowKit Go.Proofs.YtfejjfbhlmjkeaaDoorW.PrintWords Go.Proofs.YtfejjfbhlmjkeaaDoorW.PrintLast Go.Proofs.YtfejjfbhlmjkeaaDoorW.PrintMore Go.Proofs.YtfejjfbhlmjkeaaDoor.B Go.Proofs.YtfejjfbhlmjkeaaDoor.Reg Go.Proofs.YtfejjfbhlmjkeaaDoor.PModelMore Go.Proofs.YtfejjfbhlmjkeaaDoor.CQ
def T_magpieref04_All_6 : Bool × List (List Nat × List Nat) := (true, [([], []), ([], []), ([0, 1], [0, 1]), ([2], [2]), ([], []), ([], []), ([4, 5], [4, 5]), ([6], [6]), ([3, 7], [3, 7]), ([8], [8])])
def B_magpieref04_All_6 : List Nat := [0, 0, 3, 7, 0, 0, 48, 112, 255, 511]
theorem tab_magpieref04_All_6 : rtab .any (opsOf Tryd.f40 6) = T_magpieref04_All_6 := by kernel_rfl
theorem bits_magpieref04_All_6 : waitsOk T_magpieref04_All_6.2 B_magpieref04_All_6 = true := by kernel_rfl
set_option maxRecDepth 20000 in
set_option maxHeartbeats 4000000 in
theorem all_any (A B : Option Addr) (xs ys : List Ent) (c d : Nat) (w : World) (hA : RowV w A xs) (hB : RowV w B ys) (hx : ∀ x ∈ xs, x.In w) (hy : ∀ y ∈ ys, y.In w) (hk : xs.map Ent.key = ys.map Ent.key) (hm : xs.length ≤ 100000) :
    Calls Tryd.prog 40 #[.slice A xs.length c, .slice B ys.length d] w fun e w' => e = .returned (.bool true) ∧ Below w.heap.size w w' := by
  have hlen : ys.length = xs.length := by have := congrArg List.length hk; simpa using this.symm
  rw [hlen]
  have HA := Aside0.mk hA
  have HBr := Aside0.mk hB
  have HX := Aside0.mk hx
  have HY := Aside0.mk hy
  have HK := Aside0.mk hk
  have HL := Aside0.mk hlen
  have HM := Aside0.mk hm
  clear hA hB hx hy hk hlen hm
  go_enter Tryd.func40, Tryd.ntmps40
  go_wp2
  go_loopw [13] (fun t13 wr => ∃ (i : Nat), i ≤ xs.length ∧ t13 = .int .i64 (i : Int) ∧ Aside0 (Below w.heap.size w wr)) (fun t13 _ => xs.length - (intOf t13).toNat)
  case atStart => exact ⟨0, Nat.zero_le _, rfl, ⟨Below.refl _ _⟩⟩
  case round =>
    obtain ⟨i, hi, rfl, HBo⟩ := hrel
    by_cases hlt : i < xs.length
    · have hlt2 : i < ys.length := by rw [HL.out]; exact hlt
      obtain ⟨a, rfl, k0, k1, k2⟩ := (HA.out.below HBo.out).get i hlt
      obtain ⟨b, rfl, m0, m1, m2⟩ := (HBr.out.below HBo.out).get i hlt2
      obtain ⟨x, hx⟩ : ∃ x, x = xs[i] := ⟨_, rfl⟩
      obtain ⟨y, hy⟩ : ∃ y, y = ys[i] := ⟨_, rfl⟩
      rw [← hx] at k0 k1 k2
      rw [← hy] at m0 m1 m2
      have HSm : Aside0 (∀ V, Below w.heap.size w V → Calls Tryd.prog 41 #[x.val, y.val] V fun e w' => e = .returned (.bool true) ∧ Below V.heap.size V w') := ⟨fun V h => by
        have e1 : x.key = y.key := by
          have h1 : (xs.map Ent.key)[i]? = (ys.map Ent.key)[i]? := by rw [HK.out]
          rw [List.getElem?_map, List.getElem?_map, List.getElem?_eq_getElem hlt, List.getElem?_eq_getElem hlt2, ← hx, ← hy] at h1
          simpa using h1
        have := refSame_any x y V ((HX.out x (by rw [hx]; exact List.getElem_mem hlt)).below h) ((HY.out y (by rw [hy]; exact List.getElem_mem hlt2)).below h)
        rw [e1, sameK_refl] at this
        exact this⟩
      have K0 := Aside0.mk k0
      have K1 := Aside0.mk k1
      have K2 := Aside0.mk k2
      have M0 := Aside0.mk m0
      have M1 := Aside0.mk m1
      have M2 := Aside0.mk m2
      have Hlt := Aside0.mk hlt
      have ja : (i : Int) < (xs.length : Int) := by omega
      have jl : decide ((i : Int) < (xs.length : Int)) = true := decide_eq_true ja
      have HBd : Aside0 (Below w.heap.size w wr) := ⟨HBo.out⟩
      have HB : Aside0 (Below wr.heap.size wr wr) := ⟨Below.refl _ _⟩
      unfold Ent.val at HSm
      clear k0 k1 k2 m0 m1 m2 hx hy hlt2
      go_wp2_with fail
      refine start_ (n := 10) (S := fun x_ => Below wr.heap.size wr x_) (ds := []) #[false, false, false, false, false, false, false, false, false, false] (by kernel_rfl) rfl rfl (pw_below_drewN (Below.refl _ _) 1) (fun hHeld => ?_)
      refine with_tabW tab_magpieref04_All_6 bits_magpieref04_All_6 (fun HT_ HW_ => ?_)
      have HB := Aside0.mk (pw_below_drewN HB.out 1)
      change Aside0 (Below _ _ (World.drew wr)) at HB
      change Below _ _ (World.drew wr) at hHeld
      have hSz : (World.drew wr).heap.size = wr.heap.size := rfl
      have HBd := Aside0.mk (show Below w.heap.size w (World.drew wr) from pw_below_drewN HBd.out 1)
      have K0 := Aside0.mk (show (World.drew wr).cell? _ = _ from K0.out)
      have K1 := Aside0.mk (show (World.drew wr).cell? _ = _ from K1.out)
      have K2 := Aside0.mk (show (World.drew wr).cell? _ = _ from K2.out)
      have M0 := Aside0.mk (show (World.drew wr).cell? _ = _ from M0.out)
      have M1 := Aside0.mk (show (World.drew wr).cell? _ = _ from M1.out)
      have M2 := Aside0.mk (show (World.drew wr).cell? _ = _ from M2.out)
      refine wpAnyLast_str (S' := fun x_ => Below (World.drew wr).heap.size (World.drew wr) x_) (fun x_ hx_ => below_step hHeld hx_) (Below.refl _ _) ?_
      clear hHeld hSz
      generalize World.drew wr = wrd at *
      have HS := Aside0.mk (Below.refl wrd.heap.size wrd)
      refine pure_ (i := 0) (N := (some 16)) (v := ?_) (a' := ?_) #[true, false, false, false, false, false, false, false, false, false] rfl rfl (any_of HT_.out (by kernel_rfl)) (fun _ _ _ h => h) (Or.inl ⟨by rfl, ?_⟩) ?_ ?_
      rotate_left
      · intro w_
        go_simp
        try with_reducible rfl
      rotate_left
      · simp only [Act.put, List.setIfInBounds_toArray, List.set_cons_zero, List.set_cons_succ, i64_w, i32_w]
        rfl
      refine pure_ (i := 1) (N := (some 17)) (v := ?_) (a' := ?_) #[true, true, false, false, false, false, false, false, false, false] rfl rfl (any_of HT_.out (by kernel_rfl)) (fun _ _ _ h => h) (Or.inl ⟨by rfl, ?_⟩) ?_ ?_
      rotate_left
      · intro w_
        go_simp
        try with_reducible rfl
      rotate_left
      · simp only [Act.put, List.setIfInBounds_toArray, List.set_cons_zero, List.set_cons_succ, i64_w, i32_w]
        rfl
      refine pure_ (i := 2) (N := (some 18)) (v := ?_) (a' := ?_) #[true, true, true, false, false, false, false, false, false, false] rfl rfl (any_of HT_.out (by kernel_rfl)) (fun _ _ _ h => h) (Or.inl ⟨by rfl, ?_⟩) ?_ ?_
      rotate_left
      · intro w_
        go_simp
        try with_reducible rfl
      rotate_left
      · simp only [Act.put, List.setIfInBounds_toArray, List.set_cons_zero, List.set_cons_succ, i64_w, i32_w]
        rfl
      refine pure_ (i := 4) (N := (some 20)) (v := ?_) (a' := ?_) #[true, true, true, false, true, false, false, false, false, false] rfl rfl (any_of HT_.out (by kernel_rfl)) (fun _ _ _ h => h) (Or.inl ⟨by rfl, ?_⟩) ?_ ?_
      rotate_left
      · intro w_
        go_simp
        try with_reducible rfl
      rotate_left
      · simp only [Act.put, List.setIfInBounds_toArray, List.set_cons_zero, List.set_cons_succ, i64_w, i32_w]
        rfl
      refine pure_ (i := 5) (N := (some 21)) (v := ?_) (a' := ?_) #[true, true, true, false, true, true, false, false, false, false] rfl rfl (any_of HT_.out (by kernel_rfl)) (fun _ _ _ h => h) (Or.inl ⟨by rfl, ?_⟩) ?_ ?_
      rotate_left
      · intro w_
        go_simp
        try with_reducible rfl
      rotate_left
      · simp only [Act.put, List.setIfInBounds_toArray, List.set_cons_zero, List.set_cons_succ, i64_w, i32_w]
        rfl
      refine pure_ (i := 6) (N := (some 22)) (v := ?_) (a' := ?_) #[true, true, true, false, true, true, true, false, false, false] rfl rfl (any_of HT_.out (by kernel_rfl)) (fun _ _ _ h => h) (Or.inl ⟨by rfl, ?_⟩) ?_ ?_
      rotate_left
      · intro w_
        go_simp
        try with_reducible rfl
      rotate_left
      · simp only [Act.put, List.setIfInBounds_toArray, List.set_cons_zero, List.set_cons_succ, i64_w, i32_w]
        rfl
      refine take_ (i := 3) (N := (some 19)) (v := ?_) (a' := ?_) #[true, true, true, true, true, true, true, false, false, false] rfl rfl (take_ofW HT_.out HW_.out (by kernel_rfl)) (fun _ _ _ h => h) (Or.inl ⟨by rfl, ?_⟩) (Below.refl _ _) ?_ ?_
      rotate_left
      · intro Wx hWx
        have h0 := cell_below hWx K0.out
        have h1 := cell_below hWx K1.out
        have h2 := cell_below hWx K2.out
        go_simp
        try with_reducible rfl
      rotate_left
      · simp only [Act.put, List.setIfInBounds_toArray, List.set_cons_zero, List.set_cons_succ, i64_w, i32_w]
        rfl
      refine take_ (i := 7) (N := (some 23)) (v := ?_) (a' := ?_) #[true, true, true, true, true, true, true, true, false, false] rfl rfl (take_ofW HT_.out HW_.out (by kernel_rfl)) (fun _ _ _ h => h) (Or.inl ⟨by rfl, ?_⟩) (Below.refl _ _) ?_ ?_
      rotate_left
      · intro Wx hWx
        have h0 := cell_below hWx M0.out
        have h1 := cell_below hWx M1.out
        have h2 := cell_below hWx M2.out
        go_simp
        try with_reducible rfl
      rotate_left
      · simp only [Act.put, List.setIfInBounds_toArray, List.set_cons_zero, List.set_cons_succ, i64_w, i32_w]
        rfl
      refine one_ (i := 8) (N := (some 24)) #[true, true, true, true, true, true, true, true, true, false] rfl rfl (one_of HT_.out (by kernel_rfl)) (by decide) (fun K hK => ?_)
      refine goes_ Tryd.func41 (by kernel_rfl) rfl #[.agg #[.int .i64 x.at_, .slice x.A x.ls.length x.c, .string x.line], .agg #[.int .i64 y.at_, .slice y.A y.ls.length y.c, .string y.line]] (by rfl) rfl rfl (by (try simp only [List.map_toArray, List.map_cons, List.map_nil]); first | done | rfl) ?_
      refine (HSm.out _ HBd.out).mono ?_
      rintro e w6_8 ⟨rfl, hb_1⟩
      refine ⟨_, rfl, ?_⟩
      have HBd := Aside0.mk (below_step HBd.out hb_1)
      have hb_ : Below wrd.heap.size wrd w6_8 := hb_1
      have HB := Aside0.mk (below_step HB.out hb_)
      refine hK.out _ _ hb_ (fun hHeld => ?_)
      clear hK K
      refine wpAnyLast_str (S' := fun x_ => Below w6_8.heap.size w6_8 x_) (fun x_ hx_ => below_step hHeld hx_) (Below.refl _ _) ?_
      clear hHeld
      (try clear hb)
      clear hb_
      have HS := Aside0.mk (Below.refl w6_8.heap.size w6_8)
      refine norm_ (a' := ?_) ?_ ?_
      rotate_left
      · show Act.put _ (some 24) _ = _
        simp only [Act.put, List.setIfInBounds_toArray, List.set_cons_zero, List.set_cons_succ, i64_w, i32_w]
        rfl
      refine pure_ (i := 9) (N := (some 25)) (v := ?_) (a' := ?_) #[true, true, true, true, true, true, true, true, true, true] rfl rfl (any_of HT_.out (by kernel_rfl)) (fun _ _ _ h => h) (Or.inl ⟨by rfl, ?_⟩) ?_ ?_
      rotate_left
      · intro w_
        go_simp
        try with_reducible rfl
      rotate_left
      · simp only [Act.put, List.setIfInBounds_toArray, List.set_cons_zero, List.set_cons_succ, i64_w, i32_w]
        rfl
      refine done_ (done_of HT_.out (by kernel_rfl)) ?_
      go_wp2
      go_roundw
      case rel => exact ⟨i + 1, by have := Hlt.out; omega, by rw [w64_in _ (by have := Hlt.out; have := HM.out; omega)]; rfl, HBd⟩
      case measure => have h1 := Hlt.out; have h2 := HM.out; rw [w64_in _ (by omega)]; simp [intOf]; omega
    · go_wp2
      go_ret
      exact ⟨rfl, HBo.out⟩
end Go.Proofs.YtfejjfbhlmjkeaaDoor.C
end
section
namespace Go.Proofs.YtfejjfbhlmjkeaaDoor.B
end Go.Proofs.YtfejjfbhlmjkeaaDoor.B
namespace Go.Proofs.YtfejjfbhlmjkeaaDoor.CQ
end Go.Proofs.YtfejjfbhlmjkeaaDoor.CQ
namespace Go.Proofs.YtfejjfbhlmjkeaaDoor.PModelMore
end Go.Proofs.YtfejjfbhlmjkeaaDoor.PModelMore
namespace Go.Proofs.YtfejjfbhlmjkeaaDoor.Reg
end Go.Proofs.YtfejjfbhlmjkeaaDoor.Reg
set_option linter.unusedVariables false
set_option linter.unusedSimpArgs false
namespace Go.Proofs.YtfejjfbhlmjkeaaDoor.C
open Go.RowKit Go.Proofs.YtfejjfbhlmjkeaaDoorW.PrintWords Go.Proofs.YtfejjfbhlmjkeaaDoorW.PrintLast Go.Proofs.YtfejjfbhlmjkeaaDoorW.PrintMore Go.Proofs.YtfejjfbhlmjkeaaDoor.B Go.Proofs.YtfejjfbhlmjkeaaDoor.Reg Go.Proofs.YtfejjfbhlmjkeaaDoor.PModelMore Go.Proofs.YtfejjfbhlmjkeaaDoor.CQ
end Go.Proofs.YtfejjfbhlmjkeaaDoor.C
end
section
namespace Go.Proofs.YtfejjfbhlmjkeaaDoor.B
end Go.Proofs.YtfejjfbhlmjkeaaDoor.B
namespace Go.Proofs.YtfejjfbhlmjkeaaDoor.CQ
end Go.Proofs.YtfejjfbhlmjkeaaDoor.CQ
namespace Go.Proofs.YtfejjfbhlmjkeaaDoor.PModelMore
end Go.Proofs.YtfejjfbhlmjkeaaDoor.PModelMore
namespace Go.Proofs.YtfejjfbhlmjkeaaDoor.Reg
end Go.Proofs.YtfejjfbhlmjkeaaDoor.Reg
set_option linter.unusedVariables false
set_option linter.unusedSimpArgs false
namespace Go.Proofs.YtfejjfbhlmjkeaaDoor.C
open Go.RowKit Go.Proofs.YtfejjfbhlmjkeaaDoorW.PrintWords Go.Proofs.YtfejjfbhlmjkeaaDoorW.PrintLast Go.Proofs.YtfejjfbhlmjkeaaDoorW.PrintMore Go.Proofs.YtfejjfbhlmjkeaaDoor.B Go.Proofs.YtfejjfbhlmjkeaaDoor.Reg Go.Proofs.YtfejjfbhlmjkeaaDoor.PModelMore Go.Proofs.YtfejjfbhlmjkeaaDoor.CQ
/-- Where the rest of a row begins. -/
def dropA (A : Option Addr) (p c : Nat) : Option Addr := if c = p then A else A.map (·.add (p * 3))
theorem RowV.dropA {w : World} {A : Option Addr} {xs : List Ent} (h : RowV w A xs) (p c : Nat) (hc : xs.length ≤ c) : RowV w (C.dropA A p c) (xs.drop p) := by
  unfold C.dropA
  split
  · rename_i e
    rw [List.drop_eq_nil_of_le (by omega)]
    exact ⟨fun _ => rfl, fun a ha j u hu => by simp [entC] at hu⟩
  · cases A with
    | none => rw [h.nil rfl]; exact ⟨fun _ => by simp, fun a ha => (by cases ha)⟩
    | some a => exact h.drop p
end Go.Proofs.YtfejjfbhlmjkeaaDoor.C
end
