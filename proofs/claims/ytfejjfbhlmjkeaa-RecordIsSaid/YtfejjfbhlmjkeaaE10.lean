/- RecordIs: the walk of the law. -/
import Derived.Test.YtfejjfbhlmjkeaaE9
set_option linter.unusedVariables false
set_option linter.unusedSimpArgs false
namespace Go.Proofs.Ytfejjfbhlmjkeaa.C
open Go.RowKit Go.Proofs.YtfejjfbhlmjkeaaW.PrintWords Go.Proofs.YtfejjfbhlmjkeaaW.PrintLast Go.Proofs.YtfejjfbhlmjkeaaW.PrintMore Go.Proofs.Ytfejjfbhlmjkeaa.B Go.Proofs.Ytfejjfbhlmjkeaa.Reg Go.Proofs.Ytfejjfbhlmjkeaa.PRecordIs Go.Proofs.Ytfejjfbhlmjkeaa.CQ Go.Proofs.Ytfejjfbhlmjkeaa.Vi Go.Proofs.Ytfejjfbhlmjkeaa.N Go.Proofs.Ytfejjfbhlmjkeaa.Bt

def T_magpielaw04_RecordIs_7 : Bool × List (List Nat × List Nat) := (true, [([], []), ([], []), ([0, 1], [0, 1]), ([2], [2]), ([3], [3]), ([3], [3]), ([4, 5, 3], [3, 4, 5]), ([3, 6], [3, 6]), ([7, 3], [7]), ([8], [8]), ([9, 8, 8], [8, 9]), ([8], [8]), ([11, 10, 8], [8, 11]), ([10, 12, 8], [8, 10, 12]), ([8, 13], [8, 13]), ([14, 12], [14]), ([15], [15]), ([16, 15, 15], [15, 16]), ([15], [15]), ([18, 17, 15], [15, 18]), ([17, 19, 15], [15, 17, 19]), ([15, 20], [15, 20]), ([21, 19], [21]), ([22], [22]), ([23, 22], [22, 23]), ([24, 22, 22], [22, 24]), ([22], [22]), ([26, 22], [22, 26]), ([27, 22], [22, 27]), ([28, 25, 22], [22, 28]), ([29], [29]), ([30, 29], [29, 30]), ([31, 29], [29, 31]), ([29, 32, 22], [22, 29, 32]), ([25, 33, 22], [22, 25, 33]), ([22, 34], [22, 34])])
def B_magpielaw04_RecordIs_7 : List Nat := [0, 0, 3, 7, 15, 15, 63, 127, 255, 511, 1023, 511, 4095, 8191, 16383, 32767, 65535, 131071, 65535, 524287, 1048575, 2097151, 4194303, 8388607, 16777215, 33554431, 8388607, 75497471, 209715199, 536870911, 1073741823, 2147483647, 4294967295, 8589934591, 17179869183, 34359738367]
theorem tab_magpielaw04_RecordIs_7 : rtab .any (opsOf Try.f9 7) = T_magpielaw04_RecordIs_7 := by kernel_rfl
theorem bits_magpielaw04_RecordIs_7 : waitsOk T_magpielaw04_RecordIs_7.2 B_magpielaw04_RecordIs_7 = true := by kernel_rfl
def T_magpielaw04_RecordIs_9 : Bool × List (List Nat × List Nat) := (true, [([], []), ([0], [0]), ([], []), ([2, 1], [2]), ([1, 3], [1, 3]), ([4, 3], [4]), ([5], [5]), ([6, 5], [5, 6]), ([5], [5]), ([7, 8, 5, 5], [5, 7, 8]), ([9, 5], [5, 9]), ([5], [5]), ([5], [5]), ([12, 9, 5], [5, 12]), ([11, 13, 5], [5, 11, 13]), ([10, 14, 5], [5, 10, 14]), ([5, 15], [5, 15]), ([16, 13, 0, 1, 2, 3, 4, 5, 6, 7, 8, 9, 10, 11, 12, 13, 14, 15, 16], [16])])
def B_magpielaw04_RecordIs_9 : List Nat := [0, 1, 0, 7, 15, 31, 63, 127, 63, 511, 1023, 63, 63, 5119, 15359, 32767, 65535, 131071]
theorem tab_magpielaw04_RecordIs_9 : rtab .any (opsOf Try.f9 9) = T_magpielaw04_RecordIs_9 := by kernel_rfl
theorem bits_magpielaw04_RecordIs_9 : waitsOk T_magpielaw04_RecordIs_9.2 B_magpielaw04_RecordIs_9 = true := by kernel_rfl
set_option maxRecDepth 20000 in
set_option maxHeartbeats 8000000 in
theorem recordIs_all (x : Ent) (name b : ByteArray) (w : World) (rx : x.Raw w) (hnm : name.size ≤ 140737488351232) (hbs : b.size ≤ 140737488351232) (hC : Con w) :
    Calls Try.prog 9 #[x.val, .string name, .string b] w fun e w' => e = .returned (.bool true) ∧ Below w.heap.size w w' := by
  obtain ⟨W, hW⟩ : ∃ W, W = w.alloc (.cells #[.int .i64 x.at_, .slice x.A x.ls.length x.c, .string x.line] 34) := ⟨_, rfl⟩
  obtain ⟨j, hj⟩ : ∃ j, j = w.heap.size := ⟨_, rfl⟩
  have HBo : Aside0 (Below w.heap.size w W) := ⟨by rw [hW]; exact below_alloc (Below.refl _ w) _⟩
  have XA : Aside0 (BoxE W j x) := ⟨by rw [hW, hj]; exact Go.heap_alloc_new w _⟩
  have RA := Aside0.mk (rx.below HBo.out)
  have HC := Aside0.mk (hC.below HBo.out)
  have HW := Aside0.mk hW
  have HJ := Aside0.mk hj
  have Hnm := Aside0.mk hnm
  have Hbs := Aside0.mk hbs
  clear hW hj rx hC hnm hbs
  unfold Ent.val
  go_enter Try.func9, Try.ntmps9
  go_wp2_with fail
  try rw [← HW.out]
  try rw [← HJ.out]
  clear HW HJ
  ((refine (alive_any _ HC.out).mono ?_); rintro e w1 ⟨rfl, hb1⟩)
  have HBo := Aside0.mk (below_step HBo.out hb1)
  have XA := Aside0.mk (XA.out.below hb1)
  have RA := Aside0.mk (RA.out.below hb1)
  have HC := Aside0.mk (HC.out.below hb1)
  clear hb1
  have a0 : w1.cell? _ = _ := XA.out.c0
  have a1 : w1.cell? _ = _ := XA.out.c1
  have a2 : w1.cell? _ = _ := XA.out.c2
  go_wp2_with fail
  clear a0 a1 a2
  obtain ⟨ga, hga⟩ : ∃ g, g = greatB x.key := ⟨_, rfl⟩
  have HGa : Aside0 (Calls Try.prog 20 #[x.val] w1 fun e w' => e = .returned (.bool ga) ∧ Below w1.heap.size w1 w') := ⟨by rw [hga]; exact great_any x w1 RA.out⟩
  replace hga := Aside0.mk hga
  unfold Ent.val at HGa
  ((refine HGa.out.mono ?_); rintro e w2 ⟨rfl, hb1⟩)
  have HBo := Aside0.mk (below_step HBo.out hb1)
  have XA := Aside0.mk (XA.out.below hb1)
  have RA := Aside0.mk (RA.out.below hb1)
  have HC := Aside0.mk (HC.out.below hb1)
  clear hb1 HGa
  cases ga with
  | true =>
    go_wp2
    go_ret
    exact ⟨rfl, HBo.out⟩
  | false =>
    have IA := Aside0.mk (RA.out.in_ (Nat.le_trans (great_few hga.out.symm).1 (by decide)))
    have HT := Aside0.mk RA.out.time
    have HF := Aside0.mk (great_few hga.out.symm)
    clear RA hga
    by_cases hn200 : name.size ≤ 200
    · have n1 : decide ((200 : Int) < (name.size : Int)) = false := decide_eq_false (by omega)
      have n2 : decide (200 < name.size) = false := decide_eq_false (by omega)
      have Hn := Aside0.mk hn200
      clear hn200
      by_cases hb200 : b.size ≤ 200
      · have m1 : decide ((200 : Int) < (b.size : Int)) = false := decide_eq_false (by omega)
        have m2 : decide (200 < b.size) = false := decide_eq_false (by omega)
        have Hb := Aside0.mk hb200
        clear hb200
        have a0 : w2.cell? _ = _ := XA.out.c0
        have a1 : w2.cell? _ = _ := XA.out.c1
        have a2 : w2.cell? _ = _ := XA.out.c2
        go_wp2_with fail
        clear a0 a1 a2
        obtain ⟨⟨vv, vis⟩, hv⟩ : ∃ p, valueOf x.ls name = p := ⟨_, rfl⟩
        have HV := Aside0.mk (value_any x name w2 IA.out vv vis hv)
        have HV2 : Aside0 (∀ V, Below w2.heap.size w2 V → Calls Try.prog 31 #[x.val, .string name] V fun e w' => e = .returned (.tuple #[.string vv, .bool vis]) ∧ Below V.heap.size V w') := ⟨fun V h => refValue_any x name V (IA.out.below h) vv vis hv⟩
        clear hv
        unfold Ent.val at HV HV2
        ((refine HV.out.mono ?_); rintro e w3 ⟨rfl, hb1⟩)
        have HBo := Aside0.mk (below_step HBo.out hb1)
        have XA := Aside0.mk (XA.out.below hb1)
        have IA := Aside0.mk (IA.out.below hb1)
        have HC := Aside0.mk (HC.out.below hb1)
        have HV2 := Aside0.mk (HV2.out _ hb1)
        clear hb1 HV
        have a0 : w3.cell? _ = _ := XA.out.c0
        have a1 : w3.cell? _ = _ := XA.out.c1
        have a2 : w3.cell? _ = _ := XA.out.c2
        go_wp2_with fail
        clear a0 a1 a2
        ((refine HV2.out.mono ?_); rintro e W ⟨rfl, hb1⟩)
        have HBo := Aside0.mk (below_step HBo.out hb1)
        have XA := Aside0.mk (XA.out.below hb1)
        have IA := Aside0.mk (IA.out.below hb1)
        have HC := Aside0.mk (HC.out.below hb1)
        clear hb1 HV2
        have SA : Aside0 (Short x.ls) := ⟨by have := HF.out.1; exact Nat.le_trans this (by decide), fun y hy => by have := HF.out.2.2 y hy; exact ⟨Nat.le_trans this.1 (by decide), Nat.le_trans this.2 (by decide)⟩⟩
        have HIn : Aside0 (∀ V, Below W.heap.size W V → x.In V) := ⟨fun V h => IA.out.below h⟩
        obtain ⟨gd, hgd⟩ : ∃ g, g = goodE x.key := ⟨_, rfl⟩
        obtain ⟨nb, hnb⟩ : ∃ g, g = nameB name := ⟨_, rfl⟩
        obtain ⟨lo, hlo⟩ : ∃ g, g = decide (-1099511627776 ≤ x.at_) := ⟨_, rfl⟩
        obtain ⟨up, hup⟩ : ∃ g, g = decide (x.at_ ≤ 1099511627776) := ⟨_, rfl⟩
        have H10 : Aside0 (∀ V, Below W.heap.size W V → Calls Try.prog 32 #[x.val] V fun e w' => e = .returned (.bool gd) ∧ Below V.heap.size V w') := ⟨fun V h => by rw [hgd]; exact good_any x V (HIn.out V h) (fun y hy => by have := (HF.out.2.2 y hy).1; omega) (by have := HF.out.2.1; exact Nat.lt_of_le_of_lt this (by decide)) (HC.out.below h)⟩
        have H12 : Aside0 (∀ V, Below W.heap.size W V → Calls Try.prog 33 #[x.val] V fun e w' => e = .returned (.bool gd) ∧ Below V.heap.size V w') := ⟨fun V h => by rw [hgd]; exact refGood_any x V (HIn.out V h) (fun y hy => (HF.out.2.2 y hy).1)⟩
        have H17 : Aside0 (∀ V, Calls Try.prog 28 #[.string name] V fun e w' => e = .returned (.bool nb) ∧ Below V.heap.size V w') := ⟨fun V => by rw [hnb]; exact name_any name V (by have := Hn.out; omega)⟩
        have H19 : Aside0 (∀ V, Calls Try.prog 34 #[.string name] V fun e w' => e = .returned (.bool nb) ∧ Below V.heap.size V w') := ⟨fun V => by rw [hnb]; exact refName_any name V (by have := Hn.out; omega)⟩
        have H25 : Aside0 (∀ V, Calls Try.prog 35 #[.int .i64 x.at_] V fun e w' => e = .returned (.bool (lo && up)) ∧ Below V.heap.size V w') := ⟨fun V => by rw [hlo, hup]; exact time_any x.at_ V⟩
        obtain ⟨sp, hsp⟩ : ∃ p, p = str (putB x.ls) := ⟨_, rfl⟩
        obtain ⟨bp, hbp⟩ : ∃ p, p = str (entB x.key) := ⟨_, rfl⟩
        have HS1 : Aside0 (∀ V, Below W.heap.size W V → Calls Try.prog 29 #[x.val] V fun e w' => e = .returned (.string sp) ∧ Below V.heap.size V w') := ⟨fun V h => by rw [hsp]; exact stream_any x V (HIn.out V h) SA.out⟩
        have HS3 : Aside0 (∀ V, Below W.heap.size W V → Calls Try.prog 36 #[x.val] V fun e w' => e = .returned (.string sp) ∧ Below V.heap.size V w') := ⟨fun V h => by rw [hsp]; exact refStream_any x V (HIn.out V h) SA.out⟩
        have HS13 : Aside0 (∀ V, Below W.heap.size W V → Calls Try.prog 38 #[x.val] V fun e w' => e = .returned (.string bp) ∧ Below V.heap.size V w') := ⟨fun V h => by rw [hbp]; exact refBytes_any x V (HIn.out V h) SA.out (by have := HF.out.2.1; exact Nat.le_trans this (by decide)) HT.out⟩
        have HPut : Aside0 (∀ (B V : World) (v : Value), x.In B → Below B.heap.size B V → Go.Proofs.Ytfejjfbhlmjkeaa.B.Own V B.heap.size 5 v (cs b.data.toList) → Calls Try.prog 37 #[v, x.val] V fun e w' => ∃ v', e = .returned v' ∧ Go.Proofs.Ytfejjfbhlmjkeaa.B.Own w' B.heap.size 5 v' (cs (b.data.toList ++ entB x.key)) ∧ V.grownBy w' v.ownBlock ∧ Near V v v') := ⟨fun B V v h1 h2 h3 => putE_any v b.data.toList x h2 h1 SA.out (by have := HF.out.2.1; exact Nat.le_trans this (by decide)) HT.out h3 (by rw [show b.data.toList.length = b.size from Array.length_toList]; have := Hb.out; omega)⟩
        have HE : Aside0 (b ++ bp = str (b.data.toList ++ entB x.key)) := ⟨by rw [hbp, ← str_app, str_data]⟩
        have zb : ¬ 9223372036854775807 < b.size + bp.size := by
          have h1 : (entB x.key).length ≤ 300000000 := by
            unfold entB Ent.key
            have := vint_le10 (zig_lt HT.out.1 HT.out.2)
            have := putB_len x.ls SA.out
            have := txt_len (s := x.line) (by have := HF.out.2.1; exact Nat.le_trans this (by decide))
            simp only [List.length_append]; omega
          rw [hbp, str_size]; have := Hb.out; omega
        have kb := fun W => print_bytes (P := Try.prog) 9 52 5 Try.underlying9 Try.underlying52 Try.underlying5 b W
        replace hlo := hlo.symm
        replace hup := hup.symm
        clear hgd hnb hsp hbp IA HC HT HF SA n1 n2 m1 m2
        unfold Ent.val at H10 H12 HS1 HS3 HS13 HPut
        have HB : Aside0 (Below W.heap.size W W) := ⟨Below.refl _ _⟩
        have HBS : Aside0 (Below W.heap.size W W) := ⟨Below.refl _ _⟩
        go_wp2_with fail
        cases up with
        | true =>
          simp only [Bool.and_true] at H25
          refine start_ (n := 36) (S := fun x_ => Below W.heap.size W x_) (ds := []) #[false, false, false, false, false, false, false, false, false, false, false, false, false, false, false, false, false, false, false, false, false, false, false, false, false, false, false, false, false, false, false, false, false, false, false, false] (by kernel_rfl) rfl rfl (pw_below_drewN (Below.refl _ _) 1) (fun hHeld => ?_)
          refine with_tabW tab_magpielaw04_RecordIs_7 bits_magpielaw04_RecordIs_7 (fun HT_ HW_ => ?_)
          have HB := Aside0.mk (pw_below_drewN HB.out 1)
          change Aside0 (Below _ _ (World.drew W)) at HB
          change Below _ _ (World.drew W) at hHeld
          have hSz : (World.drew W).heap.size = W.heap.size := rfl
          have XA := Aside0.mk (show BoxE (World.drew W) j x from XA.out)
          have HBS : Aside0 (Below W.heap.size W (World.drew W)) := ⟨pw_below_drewN (Below.refl _ W) 1⟩
          refine wpAnyLast_str (S' := fun x_ => Below (World.drew W).heap.size (World.drew W) x_) (fun x_ hx_ => below_step hHeld hx_) (Below.refl _ _) ?_
          clear hHeld hSz
          generalize World.drew W = Wd at *
          have HS := Aside0.mk (Below.refl Wd.heap.size Wd)
          refine pure_ (i := 0) (N := (some 37)) (v := ?_) (a' := ?_) #[true, false, false, false, false, false, false, false, false, false, false, false, false, false, false, false, false, false, false, false, false, false, false, false, false, false, false, false, false, false, false, false, false, false, false, false] rfl rfl (any_of HT_.out (by kernel_rfl)) (fun _ _ _ h => h) (Or.inl ⟨by rfl, ?_⟩) ?_ ?_
          rotate_left
          · intro w_
            go_simp
            try with_reducible rfl
          rotate_left
          · simp only [Act.put, List.setIfInBounds_toArray, List.set_cons_zero, List.set_cons_succ, i64_w, i32_w]
            rfl
          refine pure_ (i := 1) (N := (some 38)) (v := ?_) (a' := ?_) #[true, true, false, false, false, false, false, false, false, false, false, false, false, false, false, false, false, false, false, false, false, false, false, false, false, false, false, false, false, false, false, false, false, false, false, false] rfl rfl (any_of HT_.out (by kernel_rfl)) (fun _ _ _ h => h) (Or.inl ⟨by rfl, ?_⟩) ?_ ?_
          rotate_left
          · intro w_
            go_simp
            try with_reducible rfl
          rotate_left
          · simp only [Act.put, List.setIfInBounds_toArray, List.set_cons_zero, List.set_cons_succ, i64_w, i32_w]
            rfl
          refine pure_ (i := 2) (N := (some 39)) (v := ?_) (a' := ?_) #[true, true, true, false, false, false, false, false, false, false, false, false, false, false, false, false, false, false, false, false, false, false, false, false, false, false, false, false, false, false, false, false, false, false, false, false] rfl rfl (any_of HT_.out (by kernel_rfl)) (fun _ _ _ h => h) (Or.inl ⟨by rfl, ?_⟩) ?_ ?_
          rotate_left
          · intro w_
            go_simp
            try with_reducible rfl
          rotate_left
          · simp only [Act.put, List.setIfInBounds_toArray, List.set_cons_zero, List.set_cons_succ, i64_w, i32_w]
            rfl
          refine pure_ (i := 3) (N := (some 40)) (v := ?_) (a' := ?_) #[true, true, true, true, false, false, false, false, false, false, false, false, false, false, false, false, false, false, false, false, false, false, false, false, false, false, false, false, false, false, false, false, false, false, false, false] rfl rfl (any_of HT_.out (by kernel_rfl)) (fun _ _ _ h => h) (Or.inl ⟨by rfl, ?_⟩) ?_ ?_
          rotate_left
          · intro w_
            go_simp
            try with_reducible rfl
          rotate_left
          · simp only [Act.put, List.setIfInBounds_toArray, List.set_cons_zero, List.set_cons_succ, i64_w, i32_w]
            rfl
          refine pure_ (i := 4) (N := (some 41)) (v := ?_) (a' := ?_) #[true, true, true, true, true, false, false, false, false, false, false, false, false, false, false, false, false, false, false, false, false, false, false, false, false, false, false, false, false, false, false, false, false, false, false, false] rfl rfl (any_of HT_.out (by kernel_rfl)) (fun _ _ _ h => h) (Or.inl ⟨by rfl, ?_⟩) ?_ ?_
          rotate_left
          · intro w_
            go_simp
            try with_reducible rfl
          rotate_left
          · simp only [Act.put, List.setIfInBounds_toArray, List.set_cons_zero, List.set_cons_succ, i64_w, i32_w]
            rfl
          refine pure_ (i := 5) (N := (some 42)) (v := ?_) (a' := ?_) #[true, true, true, true, true, true, false, false, false, false, false, false, false, false, false, false, false, false, false, false, false, false, false, false, false, false, false, false, false, false, false, false, false, false, false, false] rfl rfl (any_of HT_.out (by kernel_rfl)) (fun _ _ _ h => h) (Or.inl ⟨by rfl, ?_⟩) ?_ ?_
          rotate_left
          · intro w_
            go_simp
            try with_reducible rfl
          rotate_left
          · simp only [Act.put, List.setIfInBounds_toArray, List.set_cons_zero, List.set_cons_succ, i64_w, i32_w]
            rfl
          refine pure_ (i := 6) (N := (some 43)) (v := ?_) (a' := ?_) #[true, true, true, true, true, true, true, false, false, false, false, false, false, false, false, false, false, false, false, false, false, false, false, false, false, false, false, false, false, false, false, false, false, false, false, false] rfl rfl (any_of HT_.out (by kernel_rfl)) (fun _ _ _ h => h) (Or.inl ⟨by rfl, ?_⟩) ?_ ?_
          rotate_left
          · intro w_
            go_simp
            try with_reducible rfl
          rotate_left
          · simp only [Act.put, List.setIfInBounds_toArray, List.set_cons_zero, List.set_cons_succ, i64_w, i32_w]
            rfl
          refine pure_ (i := 7) (N := (some 44)) (v := ?_) (a' := ?_) #[true, true, true, true, true, true, true, true, false, false, false, false, false, false, false, false, false, false, false, false, false, false, false, false, false, false, false, false, false, false, false, false, false, false, false, false] rfl rfl (any_of HT_.out (by kernel_rfl)) (fun _ _ _ h => h) (Or.inl ⟨by rfl, ?_⟩) ?_ ?_
          rotate_left
          · intro w_
            go_simp
            try with_reducible rfl
          rotate_left
          · simp only [Act.put, List.setIfInBounds_toArray, List.set_cons_zero, List.set_cons_succ, i64_w, i32_w]
            rfl
          refine pure_ (i := 8) (N := (some 45)) (v := ?_) (a' := ?_) #[true, true, true, true, true, true, true, true, true, false, false, false, false, false, false, false, false, false, false, false, false, false, false, false, false, false, false, false, false, false, false, false, false, false, false, false] rfl rfl (any_of HT_.out (by kernel_rfl)) (fun _ _ _ h => h) (Or.inl ⟨by rfl, ?_⟩) ?_ ?_
          rotate_left
          · intro w_
            go_simp
            try with_reducible rfl
          rotate_left
          · simp only [Act.put, List.setIfInBounds_toArray, List.set_cons_zero, List.set_cons_succ, i64_w, i32_w]
            rfl
          refine take_ (i := 9) (N := (some 46)) (v := ?_) (a' := ?_) #[true, true, true, true, true, true, true, true, true, true, false, false, false, false, false, false, false, false, false, false, false, false, false, false, false, false, false, false, false, false, false, false, false, false, false, false] rfl rfl (take_ofW HT_.out HW_.out (by kernel_rfl)) (fun _ _ _ h => h) (Or.inl ⟨by rfl, ?_⟩) (Below.refl _ _) ?_ ?_
          rotate_left
          · intro Wx hWx
            have h0 := (XA.out.below hWx).c0
            have h1 := (XA.out.below hWx).c1
            have h2 := (XA.out.below hWx).c2
            go_simp
            try with_reducible rfl
          rotate_left
          · simp only [Act.put, List.setIfInBounds_toArray, List.set_cons_zero, List.set_cons_succ, i64_w, i32_w]
            rfl
          refine take_ (i := 11) (N := (some 48)) (v := ?_) (a' := ?_) #[true, true, true, true, true, true, true, true, true, true, false, true, false, false, false, false, false, false, false, false, false, false, false, false, false, false, false, false, false, false, false, false, false, false, false, false] rfl rfl (take_ofW HT_.out HW_.out (by kernel_rfl)) (fun _ _ _ h => h) (Or.inl ⟨by rfl, ?_⟩) (Below.refl _ _) ?_ ?_
          rotate_left
          · intro Wx hWx
            have h0 := (XA.out.below hWx).c0
            have h1 := (XA.out.below hWx).c1
            have h2 := (XA.out.below hWx).c2
            go_simp
            try with_reducible rfl
          rotate_left
          · simp only [Act.put, List.setIfInBounds_toArray, List.set_cons_zero, List.set_cons_succ, i64_w, i32_w]
            rfl
          refine one_ (i := 10) (N := (some 47)) #[true, true, true, true, true, true, true, true, true, true, true, true, false, false, false, false, false, false, false, false, false, false, false, false, false, false, false, false, false, false, false, false, false, false, false, false] rfl rfl (one_of HT_.out (by kernel_rfl)) (by decide) (fun K hK => ?_)
          refine goes_ Try.func32 (by kernel_rfl) rfl #[.agg #[.int .i64 x.at_, .slice x.A x.ls.length x.c, .string x.line]] (by rfl) rfl rfl (by (try simp only [List.map_toArray, List.map_cons, List.map_nil]); first | done | rfl) ?_
          refine (H10.out _ HBS.out).mono ?_
          rintro e w7_10 ⟨rfl, hb_1⟩
          refine ⟨_, rfl, ?_⟩
          have XA := Aside0.mk (XA.out.below hb_1)
          have HBS := Aside0.mk (below_step HBS.out hb_1)
          have hb_ : Below Wd.heap.size Wd w7_10 := hb_1
          have HB := Aside0.mk (below_step HB.out hb_)
          refine hK.out _ _ hb_ (fun hHeld => ?_)
          clear hK K
          refine wpAnyLast_str (S' := fun x_ => Below w7_10.heap.size w7_10 x_) (fun x_ hx_ => below_step hHeld hx_) (Below.refl _ _) ?_
          clear hHeld
          (try clear hb)
          clear hb_
          have HS := Aside0.mk (Below.refl w7_10.heap.size w7_10)
          refine norm_ (a' := ?_) ?_ ?_
          rotate_left
          · show Act.put _ (some 47) _ = _
            simp only [Act.put, List.setIfInBounds_toArray, List.set_cons_zero, List.set_cons_succ, i64_w, i32_w]
            rfl
          refine one_ (i := 12) (N := (some 49)) #[true, true, true, true, true, true, true, true, true, true, true, true, true, false, false, false, false, false, false, false, false, false, false, false, false, false, false, false, false, false, false, false, false, false, false, false] rfl rfl (one_of HT_.out (by kernel_rfl)) (by decide) (fun K hK => ?_)
          refine goes_ Try.func33 (by kernel_rfl) rfl #[.agg #[.int .i64 x.at_, .slice x.A x.ls.length x.c, .string x.line]] (by rfl) rfl rfl (by (try simp only [List.map_toArray, List.map_cons, List.map_nil]); first | done | rfl) ?_
          refine (H12.out _ HBS.out).mono ?_
          rintro e w7_12 ⟨rfl, hb_1⟩
          refine ⟨_, rfl, ?_⟩
          have XA := Aside0.mk (XA.out.below hb_1)
          have HBS := Aside0.mk (below_step HBS.out hb_1)
          have hb_ : Below w7_10.heap.size w7_10 w7_12 := hb_1
          have HB := Aside0.mk (below_step HB.out hb_)
          refine hK.out _ _ hb_ (fun hHeld => ?_)
          clear hK K
          refine wpAnyLast_str (S' := fun x_ => Below w7_12.heap.size w7_12 x_) (fun x_ hx_ => below_step hHeld hx_) (Below.refl _ _) ?_
          clear hHeld
          (try clear hb)
          clear hb_
          have HS := Aside0.mk (Below.refl w7_12.heap.size w7_12)
          refine norm_ (a' := ?_) ?_ ?_
          rotate_left
          · show Act.put _ (some 49) _ = _
            simp only [Act.put, List.setIfInBounds_toArray, List.set_cons_zero, List.set_cons_succ, i64_w, i32_w]
            rfl
          refine pure_ (i := 13) (N := (some 50)) (v := ?_) (a' := ?_) #[true, true, true, true, true, true, true, true, true, true, true, true, true, true, false, false, false, false, false, false, false, false, false, false, false, false, false, false, false, false, false, false, false, false, false, false] rfl rfl (any_of HT_.out (by kernel_rfl)) (fun _ _ _ h => h) (Or.inl ⟨by rfl, ?_⟩) ?_ ?_
          rotate_left
          · intro w_
            go_simp
            try with_reducible rfl
          rotate_left
          · simp only [Act.put, List.setIfInBounds_toArray, List.set_cons_zero, List.set_cons_succ, i64_w, i32_w]
            rfl
          refine pure_ (i := 14) (N := (some 51)) (v := ?_) (a' := ?_) #[true, true, true, true, true, true, true, true, true, true, true, true, true, true, true, false, false, false, false, false, false, false, false, false, false, false, false, false, false, false, false, false, false, false, false, false] rfl rfl (any_of HT_.out (by kernel_rfl)) (fun _ _ _ h => h) (Or.inl ⟨by rfl, ?_⟩) ?_ ?_
          rotate_left
          · intro w_
            go_simp
            try with_reducible rfl
          rotate_left
          · simp only [Act.put, List.setIfInBounds_toArray, List.set_cons_zero, List.set_cons_succ, i64_w, i32_w]
            rfl
          refine pure_ (i := 15) (N := (some 52)) (v := ?_) (a' := ?_) #[true, true, true, true, true, true, true, true, true, true, true, true, true, true, true, true, false, false, false, false, false, false, false, false, false, false, false, false, false, false, false, false, false, false, false, false] rfl rfl (any_of HT_.out (by kernel_rfl)) (fun _ _ _ h => h) (Or.inl ⟨by rfl, ?_⟩) ?_ ?_
          rotate_left
          · intro w_
            go_simp
            try with_reducible rfl
          rotate_left
          · simp only [Act.put, List.setIfInBounds_toArray, List.set_cons_zero, List.set_cons_succ, i64_w, i32_w]
            rfl
          refine pure_ (i := 16) (N := (some 53)) (v := ?_) (a' := ?_) #[true, true, true, true, true, true, true, true, true, true, true, true, true, true, true, true, true, false, false, false, false, false, false, false, false, false, false, false, false, false, false, false, false, false, false, false] rfl rfl (any_of HT_.out (by kernel_rfl)) (fun _ _ _ h => h) (Or.inl ⟨by rfl, ?_⟩) ?_ ?_
          rotate_left
          · intro w_
            go_simp
            try with_reducible rfl
          rotate_left
          · simp only [Act.put, List.setIfInBounds_toArray, List.set_cons_zero, List.set_cons_succ, i64_w, i32_w]
            rfl
          refine pure_ (i := 18) (N := (some 55)) (v := ?_) (a' := ?_) #[true, true, true, true, true, true, true, true, true, true, true, true, true, true, true, true, true, false, true, false, false, false, false, false, false, false, false, false, false, false, false, false, false, false, false, false] rfl rfl (any_of HT_.out (by kernel_rfl)) (fun _ _ _ h => h) (Or.inl ⟨by rfl, ?_⟩) ?_ ?_
          rotate_left
          · intro w_
            go_simp
            try with_reducible rfl
          rotate_left
          · simp only [Act.put, List.setIfInBounds_toArray, List.set_cons_zero, List.set_cons_succ, i64_w, i32_w]
            rfl
          refine one_ (i := 17) (N := (some 54)) #[true, true, true, true, true, true, true, true, true, true, true, true, true, true, true, true, true, true, true, false, false, false, false, false, false, false, false, false, false, false, false, false, false, false, false, false] rfl rfl (one_of HT_.out (by kernel_rfl)) (by decide) (fun K hK => ?_)
          refine goes_ Try.func28 (by kernel_rfl) rfl #[.string name] (by rfl) rfl rfl (by (try simp only [List.map_toArray, List.map_cons, List.map_nil]); first | done | rfl) ?_
          refine (H17.out _).mono ?_
          rintro e w7_17 ⟨rfl, hb_1⟩
          refine ⟨_, rfl, ?_⟩
          have XA := Aside0.mk (XA.out.below hb_1)
          have HBS := Aside0.mk (below_step HBS.out hb_1)
          have hb_ : Below w7_12.heap.size w7_12 w7_17 := hb_1
          have HB := Aside0.mk (below_step HB.out hb_)
          refine hK.out _ _ hb_ (fun hHeld => ?_)
          clear hK K
          refine wpAnyLast_str (S' := fun x_ => Below w7_17.heap.size w7_17 x_) (fun x_ hx_ => below_step hHeld hx_) (Below.refl _ _) ?_
          clear hHeld
          (try clear hb)
          clear hb_
          have HS := Aside0.mk (Below.refl w7_17.heap.size w7_17)
          refine norm_ (a' := ?_) ?_ ?_
          rotate_left
          · show Act.put _ (some 54) _ = _
            simp only [Act.put, List.setIfInBounds_toArray, List.set_cons_zero, List.set_cons_succ, i64_w, i32_w]
            rfl
          refine one_ (i := 19) (N := (some 56)) #[true, true, true, true, true, true, true, true, true, true, true, true, true, true, true, true, true, true, true, true, false, false, false, false, false, false, false, false, false, false, false, false, false, false, false, false] rfl rfl (one_of HT_.out (by kernel_rfl)) (by decide) (fun K hK => ?_)
          refine goes_ Try.func34 (by kernel_rfl) rfl #[.string name] (by rfl) rfl rfl (by (try simp only [List.map_toArray, List.map_cons, List.map_nil]); first | done | rfl) ?_
          refine (H19.out _).mono ?_
          rintro e w7_19 ⟨rfl, hb_1⟩
          refine ⟨_, rfl, ?_⟩
          have XA := Aside0.mk (XA.out.below hb_1)
          have HBS := Aside0.mk (below_step HBS.out hb_1)
          have hb_ : Below w7_17.heap.size w7_17 w7_19 := hb_1
          have HB := Aside0.mk (below_step HB.out hb_)
          refine hK.out _ _ hb_ (fun hHeld => ?_)
          clear hK K
          refine wpAnyLast_str (S' := fun x_ => Below w7_19.heap.size w7_19 x_) (fun x_ hx_ => below_step hHeld hx_) (Below.refl _ _) ?_
          clear hHeld
          (try clear hb)
          clear hb_
          have HS := Aside0.mk (Below.refl w7_19.heap.size w7_19)
          refine norm_ (a' := ?_) ?_ ?_
          rotate_left
          · show Act.put _ (some 56) _ = _
            simp only [Act.put, List.setIfInBounds_toArray, List.set_cons_zero, List.set_cons_succ, i64_w, i32_w]
            rfl
          refine pure_ (i := 20) (N := (some 57)) (v := ?_) (a' := ?_) #[true, true, true, true, true, true, true, true, true, true, true, true, true, true, true, true, true, true, true, true, true, false, false, false, false, false, false, false, false, false, false, false, false, false, false, false] rfl rfl (any_of HT_.out (by kernel_rfl)) (fun _ _ _ h => h) (Or.inl ⟨by rfl, ?_⟩) ?_ ?_
          rotate_left
          · intro w_
            go_simp
            try with_reducible rfl
          rotate_left
          · simp only [Act.put, List.setIfInBounds_toArray, List.set_cons_zero, List.set_cons_succ, i64_w, i32_w]
            rfl
          refine pure_ (i := 21) (N := (some 58)) (v := ?_) (a' := ?_) #[true, true, true, true, true, true, true, true, true, true, true, true, true, true, true, true, true, true, true, true, true, true, false, false, false, false, false, false, false, false, false, false, false, false, false, false] rfl rfl (any_of HT_.out (by kernel_rfl)) (fun _ _ _ h => h) (Or.inl ⟨by rfl, ?_⟩) ?_ ?_
          rotate_left
          · intro w_
            go_simp
            try with_reducible rfl
          rotate_left
          · simp only [Act.put, List.setIfInBounds_toArray, List.set_cons_zero, List.set_cons_succ, i64_w, i32_w]
            rfl
          refine pure_ (i := 22) (N := (some 59)) (v := ?_) (a' := ?_) #[true, true, true, true, true, true, true, true, true, true, true, true, true, true, true, true, true, true, true, true, true, true, true, false, false, false, false, false, false, false, false, false, false, false, false, false] rfl rfl (any_of HT_.out (by kernel_rfl)) (fun _ _ _ h => h) (Or.inl ⟨by rfl, ?_⟩) ?_ ?_
          rotate_left
          · intro w_
            go_simp
            try with_reducible rfl
          rotate_left
          · simp only [Act.put, List.setIfInBounds_toArray, List.set_cons_zero, List.set_cons_succ, i64_w, i32_w]
            rfl
          refine pure_ (i := 23) (N := (some 60)) (v := ?_) (a' := ?_) #[true, true, true, true, true, true, true, true, true, true, true, true, true, true, true, true, true, true, true, true, true, true, true, true, false, false, false, false, false, false, false, false, false, false, false, false] rfl rfl (any_of HT_.out (by kernel_rfl)) (fun _ _ _ h => h) (Or.inl ⟨by rfl, ?_⟩) ?_ ?_
          rotate_left
          · intro w_
            go_simp
            try with_reducible rfl
          rotate_left
          · simp only [Act.put, List.setIfInBounds_toArray, List.set_cons_zero, List.set_cons_succ, i64_w, i32_w]
            rfl
          refine pure_ (i := 26) (N := (some 63)) (v := ?_) (a' := ?_) #[true, true, true, true, true, true, true, true, true, true, true, true, true, true, true, true, true, true, true, true, true, true, true, true, false, false, true, false, false, false, false, false, false, false, false, false] rfl rfl (any_of HT_.out (by kernel_rfl)) (fun _ _ _ h => h) (Or.inl ⟨by rfl, ?_⟩) ?_ ?_
          rotate_left
          · intro w_
            go_simp
            try with_reducible rfl
          rotate_left
          · simp only [Act.put, List.setIfInBounds_toArray, List.set_cons_zero, List.set_cons_succ, i64_w, i32_w]
            rfl
          refine take_ (i := 24) (N := (some 61)) (v := ?_) (a' := ?_) #[true, true, true, true, true, true, true, true, true, true, true, true, true, true, true, true, true, true, true, true, true, true, true, true, true, false, true, false, false, false, false, false, false, false, false, false] rfl rfl (take_ofW HT_.out HW_.out (by kernel_rfl)) (fun _ _ _ h => h) (Or.inl ⟨by rfl, ?_⟩) (Below.refl _ _) ?_ ?_
          rotate_left
          · intro Wx hWx
            have hc := (XA.out.below hWx).c0
            go_simp
            try with_reducible rfl
          rotate_left
          · simp only [Act.put, List.setIfInBounds_toArray, List.set_cons_zero, List.set_cons_succ, i64_w, i32_w]
            rfl
          refine take_ (i := 27) (N := (some 64)) (v := ?_) (a' := ?_) #[true, true, true, true, true, true, true, true, true, true, true, true, true, true, true, true, true, true, true, true, true, true, true, true, true, false, true, true, false, false, false, false, false, false, false, false] rfl rfl (take_ofW HT_.out HW_.out (by kernel_rfl)) (fun _ _ _ h => h) (Or.inl ⟨by rfl, ?_⟩) (Below.refl _ _) ?_ ?_
          rotate_left
          · intro Wx hWx
            have hc := (XA.out.below hWx).c0
            go_simp
            try with_reducible rfl
          rotate_left
          · simp only [Act.put, List.setIfInBounds_toArray, List.set_cons_zero, List.set_cons_succ, i64_w, i32_w]
            rfl
          refine pure_ (i := 28) (N := (some 65)) (v := ?_) (a' := ?_) #[true, true, true, true, true, true, true, true, true, true, true, true, true, true, true, true, true, true, true, true, true, true, true, true, true, false, true, true, true, false, false, false, false, false, false, false] rfl rfl (any_of HT_.out (by kernel_rfl)) (fun _ _ _ h => h) (Or.inl ⟨by rfl, ?_⟩) ?_ ?_
          rotate_left
          · intro w_
            go_simp
            try with_reducible rfl
          rotate_left
          · simp only [Act.put, List.setIfInBounds_toArray, List.set_cons_zero, List.set_cons_succ, i64_w, i32_w]
            rfl
          refine one_ (i := 25) (N := (some 62)) #[true, true, true, true, true, true, true, true, true, true, true, true, true, true, true, true, true, true, true, true, true, true, true, true, true, true, true, true, true, false, false, false, false, false, false, false] rfl rfl (one_of HT_.out (by kernel_rfl)) (by decide) (fun K hK => ?_)
          refine goes_ Try.func35 (by kernel_rfl) rfl #[.int .i64 x.at_] (by rfl) rfl rfl (by (try simp only [List.map_toArray, List.map_cons, List.map_nil]); first | done | rfl) ?_
          refine (H25.out _).mono ?_
          rintro e w7_25 ⟨rfl, hb_1⟩
          refine ⟨_, rfl, ?_⟩
          have XA := Aside0.mk (XA.out.below hb_1)
          have HBS := Aside0.mk (below_step HBS.out hb_1)
          have hb_ : Below w7_19.heap.size w7_19 w7_25 := hb_1
          have HB := Aside0.mk (below_step HB.out hb_)
          refine hK.out _ _ hb_ (fun hHeld => ?_)
          clear hK K
          refine wpAnyLast_str (S' := fun x_ => Below w7_25.heap.size w7_25 x_) (fun x_ hx_ => below_step hHeld hx_) (Below.refl _ _) ?_
          clear hHeld
          (try clear hb)
          clear hb_
          have HS := Aside0.mk (Below.refl w7_25.heap.size w7_25)
          refine norm_ (a' := ?_) ?_ ?_
          rotate_left
          · show Act.put _ (some 62) _ = _
            simp only [Act.put, List.setIfInBounds_toArray, List.set_cons_zero, List.set_cons_succ, i64_w, i32_w]
            rfl
          refine pure_ (i := 29) (N := (some 66)) (v := ?_) (a' := ?_) #[true, true, true, true, true, true, true, true, true, true, true, true, true, true, true, true, true, true, true, true, true, true, true, true, true, true, true, true, true, true, false, false, false, false, false, false] rfl rfl (any_of HT_.out (by kernel_rfl)) (fun _ _ _ h => h) (Or.inl ⟨by rfl, ?_⟩) ?_ ?_
          rotate_left
          · intro w_
            go_simp
            try with_reducible rfl
          rotate_left
          · simp only [Act.put, List.setIfInBounds_toArray, List.set_cons_zero, List.set_cons_succ, i64_w, i32_w]
            rfl
          refine pure_ (i := 30) (N := (some 67)) (v := ?_) (a' := ?_) #[true, true, true, true, true, true, true, true, true, true, true, true, true, true, true, true, true, true, true, true, true, true, true, true, true, true, true, true, true, true, true, false, false, false, false, false] rfl rfl (any_of HT_.out (by kernel_rfl)) (fun _ _ _ h => h) (Or.inl ⟨by rfl, ?_⟩) ?_ ?_
          rotate_left
          · intro w_
            go_simp
            try with_reducible rfl
          rotate_left
          · simp only [Act.put, List.setIfInBounds_toArray, List.set_cons_zero, List.set_cons_succ, i64_w, i32_w]
            rfl
          refine take_ (i := 31) (N := (some 68)) (v := ?_) (a' := ?_) #[true, true, true, true, true, true, true, true, true, true, true, true, true, true, true, true, true, true, true, true, true, true, true, true, true, true, true, true, true, true, true, true, false, false, false, false] rfl rfl (take_ofW HT_.out HW_.out (by kernel_rfl)) (fun _ _ _ h => h) (Or.inl ⟨by rfl, ?_⟩) (Below.refl _ _) ?_ ?_
          rotate_left
          · intro Wx hWx
            have hc := (XA.out.below hWx).c0
            go_simp
            try with_reducible rfl
          rotate_left
          · simp only [Act.put, List.setIfInBounds_toArray, List.set_cons_zero, List.set_cons_succ, i64_w, i32_w]
            rfl
          refine pure_ (i := 32) (N := (some 69)) (v := ?_) (a' := ?_) #[true, true, true, true, true, true, true, true, true, true, true, true, true, true, true, true, true, true, true, true, true, true, true, true, true, true, true, true, true, true, true, true, true, false, false, false] rfl rfl (any_of HT_.out (by kernel_rfl)) (fun _ _ _ h => h) (Or.inl ⟨by rfl, ?_⟩) ?_ ?_
          rotate_left
          · intro w_
            go_simp
            try with_reducible rfl
          rotate_left
          · simp only [Act.put, List.setIfInBounds_toArray, List.set_cons_zero, List.set_cons_succ, i64_w, i32_w]
            rfl
          refine pure_ (i := 33) (N := (some 70)) (v := ?_) (a' := ?_) #[true, true, true, true, true, true, true, true, true, true, true, true, true, true, true, true, true, true, true, true, true, true, true, true, true, true, true, true, true, true, true, true, true, true, false, false] rfl rfl (any_of HT_.out (by kernel_rfl)) (fun _ _ _ h => h) (Or.inl ⟨by rfl, ?_⟩) ?_ ?_
          rotate_left
          · intro w_
            go_simp
            try with_reducible rfl
          rotate_left
          · simp only [Act.put, List.setIfInBounds_toArray, List.set_cons_zero, List.set_cons_succ, i64_w, i32_w]
            rfl
          refine pure_ (i := 34) (N := (some 71)) (v := ?_) (a' := ?_) #[true, true, true, true, true, true, true, true, true, true, true, true, true, true, true, true, true, true, true, true, true, true, true, true, true, true, true, true, true, true, true, true, true, true, true, false] rfl rfl (any_of HT_.out (by kernel_rfl)) (fun _ _ _ h => h) (Or.inl ⟨by rfl, ?_⟩) ?_ ?_
          rotate_left
          · intro w_
            go_simp
            try with_reducible rfl
          rotate_left
          · simp only [Act.put, List.setIfInBounds_toArray, List.set_cons_zero, List.set_cons_succ, i64_w, i32_w]
            rfl
          refine pure_ (i := 35) (N := (some 72)) (v := ?_) (a' := ?_) #[true, true, true, true, true, true, true, true, true, true, true, true, true, true, true, true, true, true, true, true, true, true, true, true, true, true, true, true, true, true, true, true, true, true, true, true] rfl rfl (any_of HT_.out (by kernel_rfl)) (fun _ _ _ h => h) (Or.inl ⟨by rfl, ?_⟩) ?_ ?_
          rotate_left
          · intro w_
            go_simp
            try with_reducible rfl
          rotate_left
          · simp only [Act.put, List.setIfInBounds_toArray, List.set_cons_zero, List.set_cons_succ, i64_w, i32_w]
            rfl
          refine done_ (done_of HT_.out (by kernel_rfl)) ?_
          go_wp2_with fail
          have HBo := Aside0.mk (below_step HBo.out HB.out)
          clear HB hlo hup H10 H12 H17 H19 H25
          generalize w7_25 = V0 at *
          have HB : Aside0 (Below V0.heap.size V0 V0) := ⟨Below.refl _ _⟩
          refine start_ (n := 18) (S := fun x_ => Below V0.heap.size V0 x_) (ds := []) #[false, false, false, false, false, false, false, false, false, false, false, false, false, false, false, false, false, false] (by kernel_rfl) rfl rfl (pw_below_drewN (Below.refl _ _) 1) (fun hHeld => ?_)
          refine with_tabW tab_magpielaw04_RecordIs_9 bits_magpielaw04_RecordIs_9 (fun HT_ HW_ => ?_)
          have HB := Aside0.mk (pw_below_drewN HB.out 1)
          change Aside0 (Below _ _ (World.drew V0)) at HB
          change Below _ _ (World.drew V0) at hHeld
          have hSz : (World.drew V0).heap.size = V0.heap.size := rfl
          have XA := Aside0.mk (show BoxE (World.drew V0) j x from XA.out)
          have HBS : Aside0 (Below W.heap.size W (World.drew V0)) := ⟨pw_below_drewN HBS.out 1⟩
          refine wpAnyLast_str (S' := fun x_ => Below (World.drew V0).heap.size (World.drew V0) x_) (fun x_ hx_ => below_step hHeld hx_) (Below.refl _ _) ?_
          clear hHeld hSz
          generalize World.drew V0 = V0d at *
          have HS := Aside0.mk (Below.refl V0d.heap.size V0d)
          refine take_ (i := 0) (N := (some 73)) (v := ?_) (a' := ?_) #[true, false, false, false, false, false, false, false, false, false, false, false, false, false, false, false, false, false] rfl rfl (take_ofW HT_.out HW_.out (by kernel_rfl)) (fun _ _ _ h => h) (Or.inl ⟨by rfl, ?_⟩) (Below.refl _ _) ?_ ?_
          rotate_left
          · intro Wx hWx
            have h0 := (XA.out.below hWx).c0
            have h1 := (XA.out.below hWx).c1
            have h2 := (XA.out.below hWx).c2
            go_simp
            try with_reducible rfl
          rotate_left
          · simp only [Act.put, List.setIfInBounds_toArray, List.set_cons_zero, List.set_cons_succ, i64_w, i32_w]
            rfl
          refine take_ (i := 2) (N := (some 75)) (v := ?_) (a' := ?_) #[true, false, true, false, false, false, false, false, false, false, false, false, false, false, false, false, false, false] rfl rfl (take_ofW HT_.out HW_.out (by kernel_rfl)) (fun _ _ _ h => h) (Or.inl ⟨by rfl, ?_⟩) (Below.refl _ _) ?_ ?_
          rotate_left
          · intro Wx hWx
            have h0 := (XA.out.below hWx).c0
            have h1 := (XA.out.below hWx).c1
            have h2 := (XA.out.below hWx).c2
            go_simp
            try with_reducible rfl
          rotate_left
          · simp only [Act.put, List.setIfInBounds_toArray, List.set_cons_zero, List.set_cons_succ, i64_w, i32_w]
            rfl
          refine one_ (i := 1) (N := (some 74)) #[true, true, true, false, false, false, false, false, false, false, false, false, false, false, false, false, false, false] rfl rfl (one_of HT_.out (by kernel_rfl)) (by decide) (fun K hK => ?_)
          refine goes_ Try.func29 (by kernel_rfl) rfl #[.agg #[.int .i64 x.at_, .slice x.A x.ls.length x.c, .string x.line]] (by rfl) rfl rfl (by (try simp only [List.map_toArray, List.map_cons, List.map_nil]); first | done | rfl) ?_
          refine (HS1.out _ HBS.out).mono ?_
          rintro e w9_1 ⟨rfl, hb_1⟩
          refine ⟨_, rfl, ?_⟩
          have XA := Aside0.mk (XA.out.below hb_1)
          have HBS := Aside0.mk (below_step HBS.out hb_1)
          have hb_ : Below V0d.heap.size V0d w9_1 := hb_1
          have HB := Aside0.mk (below_step HB.out hb_)
          refine hK.out _ _ hb_ (fun hHeld => ?_)
          clear hK K
          refine wpAnyLast_str (S' := fun x_ => Below w9_1.heap.size w9_1 x_) (fun x_ hx_ => below_step hHeld hx_) (Below.refl _ _) ?_
          clear hHeld
          (try clear hb)
          clear hb_
          have HS := Aside0.mk (Below.refl w9_1.heap.size w9_1)
          refine norm_ (a' := ?_) ?_ ?_
          rotate_left
          · show Act.put _ (some 74) _ = _
            simp only [Act.put, List.setIfInBounds_toArray, List.set_cons_zero, List.set_cons_succ, i64_w, i32_w]
            rfl
          refine one_ (i := 3) (N := (some 76)) #[true, true, true, true, false, false, false, false, false, false, false, false, false, false, false, false, false, false] rfl rfl (one_of HT_.out (by kernel_rfl)) (by decide) (fun K hK => ?_)
          refine goes_ Try.func36 (by kernel_rfl) rfl #[.agg #[.int .i64 x.at_, .slice x.A x.ls.length x.c, .string x.line]] (by rfl) rfl rfl (by (try simp only [List.map_toArray, List.map_cons, List.map_nil]); first | done | rfl) ?_
          refine (HS3.out _ HBS.out).mono ?_
          rintro e w9_3 ⟨rfl, hb_1⟩
          refine ⟨_, rfl, ?_⟩
          have XA := Aside0.mk (XA.out.below hb_1)
          have HBS := Aside0.mk (below_step HBS.out hb_1)
          have hb_ : Below w9_1.heap.size w9_1 w9_3 := hb_1
          have HB := Aside0.mk (below_step HB.out hb_)
          refine hK.out _ _ hb_ (fun hHeld => ?_)
          clear hK K
          refine wpAnyLast_str (S' := fun x_ => Below w9_3.heap.size w9_3 x_) (fun x_ hx_ => below_step hHeld hx_) (Below.refl _ _) ?_
          clear hHeld
          (try clear hb)
          clear hb_
          have HS := Aside0.mk (Below.refl w9_3.heap.size w9_3)
          refine norm_ (a' := ?_) ?_ ?_
          rotate_left
          · show Act.put _ (some 76) _ = _
            simp only [Act.put, List.setIfInBounds_toArray, List.set_cons_zero, List.set_cons_succ, i64_w, i32_w]
            rfl
          refine pure_ (i := 4) (N := (some 77)) (v := ?_) (a' := ?_) #[true, true, true, true, true, false, false, false, false, false, false, false, false, false, false, false, false, false] rfl rfl (any_of HT_.out (by kernel_rfl)) (fun _ _ _ h => h) (Or.inl ⟨by rfl, ?_⟩) ?_ ?_
          rotate_left
          · intro w_
            go_simp
            try with_reducible rfl
          rotate_left
          · simp only [Act.put, List.setIfInBounds_toArray, List.set_cons_zero, List.set_cons_succ, i64_w, i32_w]
            rfl
          refine pure_ (i := 5) (N := (some 78)) (v := ?_) (a' := ?_) #[true, true, true, true, true, true, false, false, false, false, false, false, false, false, false, false, false, false] rfl rfl (any_of HT_.out (by kernel_rfl)) (fun _ _ _ h => h) (Or.inl ⟨by rfl, ?_⟩) ?_ ?_
          rotate_left
          · intro w_
            go_simp
            try with_reducible rfl
          rotate_left
          · simp only [Act.put, List.setIfInBounds_toArray, List.set_cons_zero, List.set_cons_succ, i64_w, i32_w]
            rfl
          refine pure_ (i := 6) (N := (some 79)) (v := ?_) (a' := ?_) #[true, true, true, true, true, true, true, false, false, false, false, false, false, false, false, false, false, false] rfl rfl (any_of HT_.out (by kernel_rfl)) (fun _ _ _ h => h) (Or.inl ⟨by rfl, ?_⟩) ?_ ?_
          rotate_left
          · intro w_
            go_simp
            try with_reducible rfl
          rotate_left
          · simp only [Act.put, List.setIfInBounds_toArray, List.set_cons_zero, List.set_cons_succ, i64_w, i32_w]
            rfl
          refine pure_ (i := 11) (N := (some 84)) (v := ?_) (a' := ?_) #[true, true, true, true, true, true, true, false, false, false, false, true, false, false, false, false, false, false] rfl rfl (any_of HT_.out (by kernel_rfl)) (fun _ _ _ h => h) (Or.inl ⟨by rfl, ?_⟩) ?_ ?_
          rotate_left
          · intro w_
            go_simp
            try with_reducible rfl
          rotate_left
          · simp only [Act.put, List.setIfInBounds_toArray, List.set_cons_zero, List.set_cons_succ, i64_w, i32_w]
            rfl
          refine take_ (i := 8) (N := (some 81)) (v := ?_) (a' := ?_) #[true, true, true, true, true, true, true, false, true, false, false, true, false, false, false, false, false, false] rfl rfl (take_ofW HT_.out HW_.out (by kernel_rfl)) (fun _ _ _ h => h) (Or.inl ⟨by rfl, ?_⟩) (Below.refl _ _) ?_ ?_
          rotate_left
          · intro Wx hWx
            have h0 := (XA.out.below hWx).c0
            have h1 := (XA.out.below hWx).c1
            have h2 := (XA.out.below hWx).c2
            go_simp
            try with_reducible rfl
          rotate_left
          · simp only [Act.put, List.setIfInBounds_toArray, List.set_cons_zero, List.set_cons_succ, i64_w, i32_w]
            rfl
          refine take_ (i := 12) (N := (some 85)) (v := ?_) (a' := ?_) #[true, true, true, true, true, true, true, false, true, false, false, true, true, false, false, false, false, false] rfl rfl (take_ofW HT_.out HW_.out (by kernel_rfl)) (fun _ _ _ h => h) (Or.inl ⟨by rfl, ?_⟩) (Below.refl _ _) ?_ ?_
          rotate_left
          · intro Wx hWx
            have h0 := (XA.out.below hWx).c0
            have h1 := (XA.out.below hWx).c1
            have h2 := (XA.out.below hWx).c2
            go_simp
            try with_reducible rfl
          rotate_left
          · simp only [Act.put, List.setIfInBounds_toArray, List.set_cons_zero, List.set_cons_succ, i64_w, i32_w]
            rfl
          refine one_ (i := 7) (N := (some 80)) #[true, true, true, true, true, true, true, true, true, false, false, true, true, false, false, false, false, false] rfl rfl (one_of HT_.out (by kernel_rfl)) (by decide) (fun K hK => ?_)
          refine value_ (w1 := ?_) (v := ?_) (by rfl) rfl ?_ ?_
          rotate_left 2
          · go_simp
            constructor
            · rfl
            · rfl
          have hb : Below w9_3.heap.size w9_3 (Lib.bytesWorld w9_3 5 b) := below_step HS.out (conv_below w9_3 5 b)
          have HO := Aside0.mk (own_conv w9_3 w9_3.heap.size 5 b (by have := Hb.out; simp only [maxLen]; omega) HS.out.size)
          have HInB := Aside0.mk (HIn.out w9_3 HBS.out)
          have hb_ : Below w9_3.heap.size w9_3 (Lib.bytesWorld w9_3 5 b) := hb
          refine hK.out _ _ hb_ (fun hHeld => ?_)
          clear hK K
          clear hHeld
          (try clear hb)
          generalize (Lib.bytesWorld w9_3 5 b) = w9_7 at *
          have HS := Aside0.mk hb_
          clear hb_
          refine norm_ (a' := ?_) ?_ ?_
          rotate_left
          · show Act.put _ (some 80) _ = _
            simp only [Act.put, List.setIfInBounds_toArray, List.set_cons_zero, List.set_cons_succ, i64_w, i32_w]
            rfl
          refine one_ (i := 9) (N := (some 82)) #[true, true, true, true, true, true, true, true, true, true, false, true, true, false, false, false, false, false] rfl rfl (one_of HT_.out (by kernel_rfl)) (by decide) (fun K hK => ?_)
          refine goes_ Try.func37 (by kernel_rfl) rfl #[.slice (some ⟨_, 0, none⟩) b.size _, .agg #[.int .i64 x.at_, .slice x.A x.ls.length x.c, .string x.line]] (by rfl) rfl rfl (by (try simp only [List.map_toArray, List.map_cons, List.map_nil]); first | done | rfl) ?_
          refine (HPut.out w9_3 w9_7 _ HInB.out HS.out HO.out).mono ?_
          rintro e w9_9 ⟨v9, rfl, hO9, hg9, -⟩
          refine ⟨_, rfl, ?_⟩
          have XA := Aside0.mk (XA.out.below (own_grown HO.out HS.out (Nat.le_refl _) HS.out.size hg9))
          have HBS := Aside0.mk (below_step HBS.out (own_grown HO.out HS.out (Nat.le_refl _) HS.out.size hg9))
          have HO9 := Aside0.mk hO9
          have hb_ : Below w9_3.heap.size w9_3 w9_9 := own_grown HO.out HS.out (Nat.le_refl _) HS.out.size hg9
          have HB := Aside0.mk (below_step HB.out hb_)
          refine hK.out _ _ hb_ (fun hHeld => ?_)
          clear hK K
          refine wpAnyLast_str (S' := fun x_ => Below w9_9.heap.size w9_9 x_) (fun x_ hx_ => below_step hHeld hx_) (Below.refl _ _) ?_
          clear hHeld
          (try clear hb)
          clear hb_
          have HS := Aside0.mk (Below.refl w9_9.heap.size w9_9)
          refine norm_ (a' := ?_) ?_ ?_
          rotate_left
          · show Act.put _ (some 82) _ = _
            simp only [Act.put, List.setIfInBounds_toArray, List.set_cons_zero, List.set_cons_succ, i64_w, i32_w]
            rfl
          refine take_ (i := 10) (N := (some 83)) (v := ?_) (a' := ?_) #[true, true, true, true, true, true, true, true, true, true, true, true, true, false, false, false, false, false] rfl rfl (take_ofW HT_.out HW_.out (by kernel_rfl)) (fun _ _ _ h => h) (Or.inl ⟨by rfl, ?_⟩) (Below.refl _ _) ?_ ?_
          rotate_left
          · intro Wx hWx
            have hc := str_of (HO9.out.below hWx)
            go_simp
            try with_reducible rfl
          rotate_left
          · simp only [Act.put, List.setIfInBounds_toArray, List.set_cons_zero, List.set_cons_succ, i64_w, i32_w]
            rfl
          refine one_ (i := 13) (N := (some 86)) #[true, true, true, true, true, true, true, true, true, true, true, true, true, true, false, false, false, false] rfl rfl (one_of HT_.out (by kernel_rfl)) (by decide) (fun K hK => ?_)
          refine goes_ Try.func38 (by kernel_rfl) rfl #[.agg #[.int .i64 x.at_, .slice x.A x.ls.length x.c, .string x.line]] (by rfl) rfl rfl (by (try simp only [List.map_toArray, List.map_cons, List.map_nil]); first | done | rfl) ?_
          refine (HS13.out _ HBS.out).mono ?_
          rintro e w9_13 ⟨rfl, hb_1⟩
          refine ⟨_, rfl, ?_⟩
          have XA := Aside0.mk (XA.out.below hb_1)
          have HBS := Aside0.mk (below_step HBS.out hb_1)
          have hb_ : Below w9_9.heap.size w9_9 w9_13 := hb_1
          have HB := Aside0.mk (below_step HB.out hb_)
          refine hK.out _ _ hb_ (fun hHeld => ?_)
          clear hK K
          refine wpAnyLast_str (S' := fun x_ => Below w9_13.heap.size w9_13 x_) (fun x_ hx_ => below_step hHeld hx_) (Below.refl _ _) ?_
          clear hHeld
          (try clear hb)
          clear hb_
          have HS := Aside0.mk (Below.refl w9_13.heap.size w9_13)
          refine norm_ (a' := ?_) ?_ ?_
          rotate_left
          · show Act.put _ (some 86) _ = _
            simp only [Act.put, List.setIfInBounds_toArray, List.set_cons_zero, List.set_cons_succ, i64_w, i32_w]
            rfl
          refine pure_ (i := 14) (N := (some 87)) (v := ?_) (a' := ?_) #[true, true, true, true, true, true, true, true, true, true, true, true, true, true, true, false, false, false] rfl rfl (any_of HT_.out (by kernel_rfl)) (fun _ _ _ h => h) (Or.inl ⟨by rfl, ?_⟩) ?_ ?_
          rotate_left
          · intro w_
            go_simp
            try with_reducible rfl
          rotate_left
          · simp only [Act.put, List.setIfInBounds_toArray, List.set_cons_zero, List.set_cons_succ, i64_w, i32_w]
            rfl
          refine pure_ (i := 15) (N := (some 88)) (v := ?_) (a' := ?_) #[true, true, true, true, true, true, true, true, true, true, true, true, true, true, true, true, false, false] rfl rfl (any_of HT_.out (by kernel_rfl)) (fun _ _ _ h => h) (Or.inl ⟨by rfl, ?_⟩) ?_ ?_
          rotate_left
          · intro w_
            go_simp
            try with_reducible rfl
          rotate_left
          · simp only [Act.put, List.setIfInBounds_toArray, List.set_cons_zero, List.set_cons_succ, i64_w, i32_w]
            rfl
          refine pure_ (i := 16) (N := (some 89)) (v := ?_) (a' := ?_) #[true, true, true, true, true, true, true, true, true, true, true, true, true, true, true, true, true, false] rfl rfl (any_of HT_.out (by kernel_rfl)) (fun _ _ _ h => h) (Or.inl ⟨by rfl, ?_⟩) ?_ ?_
          rotate_left
          · intro w_
            go_simp
            try with_reducible rfl
          rotate_left
          · simp only [Act.put, List.setIfInBounds_toArray, List.set_cons_zero, List.set_cons_succ, i64_w, i32_w]
            rfl
          refine pure_ (i := 17) (N := (some 6)) (v := ?_) (a' := ?_) #[true, true, true, true, true, true, true, true, true, true, true, true, true, true, true, true, true, true] rfl rfl (any_of HT_.out (by kernel_rfl)) (fun _ _ _ h => h) (Or.inl ⟨by rfl, ?_⟩) ?_ ?_
          rotate_left
          · intro w_
            go_simp
            try with_reducible rfl
          rotate_left
          · simp only [Act.put, List.setIfInBounds_toArray, List.set_cons_zero, List.set_cons_succ, i64_w, i32_w]
            rfl
          refine done_ (done_of HT_.out (by kernel_rfl)) ?_
          go_wp2_with fail
          go_ret
          exact ⟨by rw [HE.out]; simp, below_step HBo.out HB.out⟩
        | false =>
          simp only [Bool.and_false] at H25
          refine start_ (n := 36) (S := fun x_ => Below W.heap.size W x_) (ds := []) #[false, false, false, false, false, false, false, false, false, false, false, false, false, false, false, false, false, false, false, false, false, false, false, false, false, false, false, false, false, false, false, false, false, false, false, false] (by kernel_rfl) rfl rfl (pw_below_drewN (Below.refl _ _) 1) (fun hHeld => ?_)
          refine with_tabW tab_magpielaw04_RecordIs_7 bits_magpielaw04_RecordIs_7 (fun HT_ HW_ => ?_)
          have HB := Aside0.mk (pw_below_drewN HB.out 1)
          change Aside0 (Below _ _ (World.drew W)) at HB
          change Below _ _ (World.drew W) at hHeld
          have hSz : (World.drew W).heap.size = W.heap.size := rfl
          have XA := Aside0.mk (show BoxE (World.drew W) j x from XA.out)
          have HBS : Aside0 (Below W.heap.size W (World.drew W)) := ⟨pw_below_drewN (Below.refl _ W) 1⟩
          refine wpAnyLast_str (S' := fun x_ => Below (World.drew W).heap.size (World.drew W) x_) (fun x_ hx_ => below_step hHeld hx_) (Below.refl _ _) ?_
          clear hHeld hSz
          generalize World.drew W = Wd at *
          have HS := Aside0.mk (Below.refl Wd.heap.size Wd)
          refine pure_ (i := 0) (N := (some 37)) (v := ?_) (a' := ?_) #[true, false, false, false, false, false, false, false, false, false, false, false, false, false, false, false, false, false, false, false, false, false, false, false, false, false, false, false, false, false, false, false, false, false, false, false] rfl rfl (any_of HT_.out (by kernel_rfl)) (fun _ _ _ h => h) (Or.inl ⟨by rfl, ?_⟩) ?_ ?_
          rotate_left
          · intro w_
            go_simp
            try with_reducible rfl
          rotate_left
          · simp only [Act.put, List.setIfInBounds_toArray, List.set_cons_zero, List.set_cons_succ, i64_w, i32_w]
            rfl
          refine pure_ (i := 1) (N := (some 38)) (v := ?_) (a' := ?_) #[true, true, false, false, false, false, false, false, false, false, false, false, false, false, false, false, false, false, false, false, false, false, false, false, false, false, false, false, false, false, false, false, false, false, false, false] rfl rfl (any_of HT_.out (by kernel_rfl)) (fun _ _ _ h => h) (Or.inl ⟨by rfl, ?_⟩) ?_ ?_
          rotate_left
          · intro w_
            go_simp
            try with_reducible rfl
          rotate_left
          · simp only [Act.put, List.setIfInBounds_toArray, List.set_cons_zero, List.set_cons_succ, i64_w, i32_w]
            rfl
          refine pure_ (i := 2) (N := (some 39)) (v := ?_) (a' := ?_) #[true, true, true, false, false, false, false, false, false, false, false, false, false, false, false, false, false, false, false, false, false, false, false, false, false, false, false, false, false, false, false, false, false, false, false, false] rfl rfl (any_of HT_.out (by kernel_rfl)) (fun _ _ _ h => h) (Or.inl ⟨by rfl, ?_⟩) ?_ ?_
          rotate_left
          · intro w_
            go_simp
            try with_reducible rfl
          rotate_left
          · simp only [Act.put, List.setIfInBounds_toArray, List.set_cons_zero, List.set_cons_succ, i64_w, i32_w]
            rfl
          refine pure_ (i := 3) (N := (some 40)) (v := ?_) (a' := ?_) #[true, true, true, true, false, false, false, false, false, false, false, false, false, false, false, false, false, false, false, false, false, false, false, false, false, false, false, false, false, false, false, false, false, false, false, false] rfl rfl (any_of HT_.out (by kernel_rfl)) (fun _ _ _ h => h) (Or.inl ⟨by rfl, ?_⟩) ?_ ?_
          rotate_left
          · intro w_
            go_simp
            try with_reducible rfl
          rotate_left
          · simp only [Act.put, List.setIfInBounds_toArray, List.set_cons_zero, List.set_cons_succ, i64_w, i32_w]
            rfl
          refine pure_ (i := 4) (N := (some 41)) (v := ?_) (a' := ?_) #[true, true, true, true, true, false, false, false, false, false, false, false, false, false, false, false, false, false, false, false, false, false, false, false, false, false, false, false, false, false, false, false, false, false, false, false] rfl rfl (any_of HT_.out (by kernel_rfl)) (fun _ _ _ h => h) (Or.inl ⟨by rfl, ?_⟩) ?_ ?_
          rotate_left
          · intro w_
            go_simp
            try with_reducible rfl
          rotate_left
          · simp only [Act.put, List.setIfInBounds_toArray, List.set_cons_zero, List.set_cons_succ, i64_w, i32_w]
            rfl
          refine pure_ (i := 5) (N := (some 42)) (v := ?_) (a' := ?_) #[true, true, true, true, true, true, false, false, false, false, false, false, false, false, false, false, false, false, false, false, false, false, false, false, false, false, false, false, false, false, false, false, false, false, false, false] rfl rfl (any_of HT_.out (by kernel_rfl)) (fun _ _ _ h => h) (Or.inl ⟨by rfl, ?_⟩) ?_ ?_
          rotate_left
          · intro w_
            go_simp
            try with_reducible rfl
          rotate_left
          · simp only [Act.put, List.setIfInBounds_toArray, List.set_cons_zero, List.set_cons_succ, i64_w, i32_w]
            rfl
          refine pure_ (i := 6) (N := (some 43)) (v := ?_) (a' := ?_) #[true, true, true, true, true, true, true, false, false, false, false, false, false, false, false, false, false, false, false, false, false, false, false, false, false, false, false, false, false, false, false, false, false, false, false, false] rfl rfl (any_of HT_.out (by kernel_rfl)) (fun _ _ _ h => h) (Or.inl ⟨by rfl, ?_⟩) ?_ ?_
          rotate_left
          · intro w_
            go_simp
            try with_reducible rfl
          rotate_left
          · simp only [Act.put, List.setIfInBounds_toArray, List.set_cons_zero, List.set_cons_succ, i64_w, i32_w]
            rfl
          refine pure_ (i := 7) (N := (some 44)) (v := ?_) (a' := ?_) #[true, true, true, true, true, true, true, true, false, false, false, false, false, false, false, false, false, false, false, false, false, false, false, false, false, false, false, false, false, false, false, false, false, false, false, false] rfl rfl (any_of HT_.out (by kernel_rfl)) (fun _ _ _ h => h) (Or.inl ⟨by rfl, ?_⟩) ?_ ?_
          rotate_left
          · intro w_
            go_simp
            try with_reducible rfl
          rotate_left
          · simp only [Act.put, List.setIfInBounds_toArray, List.set_cons_zero, List.set_cons_succ, i64_w, i32_w]
            rfl
          refine pure_ (i := 8) (N := (some 45)) (v := ?_) (a' := ?_) #[true, true, true, true, true, true, true, true, true, false, false, false, false, false, false, false, false, false, false, false, false, false, false, false, false, false, false, false, false, false, false, false, false, false, false, false] rfl rfl (any_of HT_.out (by kernel_rfl)) (fun _ _ _ h => h) (Or.inl ⟨by rfl, ?_⟩) ?_ ?_
          rotate_left
          · intro w_
            go_simp
            try with_reducible rfl
          rotate_left
          · simp only [Act.put, List.setIfInBounds_toArray, List.set_cons_zero, List.set_cons_succ, i64_w, i32_w]
            rfl
          refine take_ (i := 9) (N := (some 46)) (v := ?_) (a' := ?_) #[true, true, true, true, true, true, true, true, true, true, false, false, false, false, false, false, false, false, false, false, false, false, false, false, false, false, false, false, false, false, false, false, false, false, false, false] rfl rfl (take_ofW HT_.out HW_.out (by kernel_rfl)) (fun _ _ _ h => h) (Or.inl ⟨by rfl, ?_⟩) (Below.refl _ _) ?_ ?_
          rotate_left
          · intro Wx hWx
            have h0 := (XA.out.below hWx).c0
            have h1 := (XA.out.below hWx).c1
            have h2 := (XA.out.below hWx).c2
            go_simp
            try with_reducible rfl
          rotate_left
          · simp only [Act.put, List.setIfInBounds_toArray, List.set_cons_zero, List.set_cons_succ, i64_w, i32_w]
            rfl
          refine take_ (i := 11) (N := (some 48)) (v := ?_) (a' := ?_) #[true, true, true, true, true, true, true, true, true, true, false, true, false, false, false, false, false, false, false, false, false, false, false, false, false, false, false, false, false, false, false, false, false, false, false, false] rfl rfl (take_ofW HT_.out HW_.out (by kernel_rfl)) (fun _ _ _ h => h) (Or.inl ⟨by rfl, ?_⟩) (Below.refl _ _) ?_ ?_
          rotate_left
          · intro Wx hWx
            have h0 := (XA.out.below hWx).c0
            have h1 := (XA.out.below hWx).c1
            have h2 := (XA.out.below hWx).c2
            go_simp
            try with_reducible rfl
          rotate_left
          · simp only [Act.put, List.setIfInBounds_toArray, List.set_cons_zero, List.set_cons_succ, i64_w, i32_w]
            rfl
          refine one_ (i := 10) (N := (some 47)) #[true, true, true, true, true, true, true, true, true, true, true, true, false, false, false, false, false, false, false, false, false, false, false, false, false, false, false, false, false, false, false, false, false, false, false, false] rfl rfl (one_of HT_.out (by kernel_rfl)) (by decide) (fun K hK => ?_)
          refine goes_ Try.func32 (by kernel_rfl) rfl #[.agg #[.int .i64 x.at_, .slice x.A x.ls.length x.c, .string x.line]] (by rfl) rfl rfl (by (try simp only [List.map_toArray, List.map_cons, List.map_nil]); first | done | rfl) ?_
          refine (H10.out _ HBS.out).mono ?_
          rintro e w7_10 ⟨rfl, hb_1⟩
          refine ⟨_, rfl, ?_⟩
          have XA := Aside0.mk (XA.out.below hb_1)
          have HBS := Aside0.mk (below_step HBS.out hb_1)
          have hb_ : Below Wd.heap.size Wd w7_10 := hb_1
          have HB := Aside0.mk (below_step HB.out hb_)
          refine hK.out _ _ hb_ (fun hHeld => ?_)
          clear hK K
          refine wpAnyLast_str (S' := fun x_ => Below w7_10.heap.size w7_10 x_) (fun x_ hx_ => below_step hHeld hx_) (Below.refl _ _) ?_
          clear hHeld
          (try clear hb)
          clear hb_
          have HS := Aside0.mk (Below.refl w7_10.heap.size w7_10)
          refine norm_ (a' := ?_) ?_ ?_
          rotate_left
          · show Act.put _ (some 47) _ = _
            simp only [Act.put, List.setIfInBounds_toArray, List.set_cons_zero, List.set_cons_succ, i64_w, i32_w]
            rfl
          refine one_ (i := 12) (N := (some 49)) #[true, true, true, true, true, true, true, true, true, true, true, true, true, false, false, false, false, false, false, false, false, false, false, false, false, false, false, false, false, false, false, false, false, false, false, false] rfl rfl (one_of HT_.out (by kernel_rfl)) (by decide) (fun K hK => ?_)
          refine goes_ Try.func33 (by kernel_rfl) rfl #[.agg #[.int .i64 x.at_, .slice x.A x.ls.length x.c, .string x.line]] (by rfl) rfl rfl (by (try simp only [List.map_toArray, List.map_cons, List.map_nil]); first | done | rfl) ?_
          refine (H12.out _ HBS.out).mono ?_
          rintro e w7_12 ⟨rfl, hb_1⟩
          refine ⟨_, rfl, ?_⟩
          have XA := Aside0.mk (XA.out.below hb_1)
          have HBS := Aside0.mk (below_step HBS.out hb_1)
          have hb_ : Below w7_10.heap.size w7_10 w7_12 := hb_1
          have HB := Aside0.mk (below_step HB.out hb_)
          refine hK.out _ _ hb_ (fun hHeld => ?_)
          clear hK K
          refine wpAnyLast_str (S' := fun x_ => Below w7_12.heap.size w7_12 x_) (fun x_ hx_ => below_step hHeld hx_) (Below.refl _ _) ?_
          clear hHeld
          (try clear hb)
          clear hb_
          have HS := Aside0.mk (Below.refl w7_12.heap.size w7_12)
          refine norm_ (a' := ?_) ?_ ?_
          rotate_left
          · show Act.put _ (some 49) _ = _
            simp only [Act.put, List.setIfInBounds_toArray, List.set_cons_zero, List.set_cons_succ, i64_w, i32_w]
            rfl
          refine pure_ (i := 13) (N := (some 50)) (v := ?_) (a' := ?_) #[true, true, true, true, true, true, true, true, true, true, true, true, true, true, false, false, false, false, false, false, false, false, false, false, false, false, false, false, false, false, false, false, false, false, false, false] rfl rfl (any_of HT_.out (by kernel_rfl)) (fun _ _ _ h => h) (Or.inl ⟨by rfl, ?_⟩) ?_ ?_
          rotate_left
          · intro w_
            go_simp
            try with_reducible rfl
          rotate_left
          · simp only [Act.put, List.setIfInBounds_toArray, List.set_cons_zero, List.set_cons_succ, i64_w, i32_w]
            rfl
          refine pure_ (i := 14) (N := (some 51)) (v := ?_) (a' := ?_) #[true, true, true, true, true, true, true, true, true, true, true, true, true, true, true, false, false, false, false, false, false, false, false, false, false, false, false, false, false, false, false, false, false, false, false, false] rfl rfl (any_of HT_.out (by kernel_rfl)) (fun _ _ _ h => h) (Or.inl ⟨by rfl, ?_⟩) ?_ ?_
          rotate_left
          · intro w_
            go_simp
            try with_reducible rfl
          rotate_left
          · simp only [Act.put, List.setIfInBounds_toArray, List.set_cons_zero, List.set_cons_succ, i64_w, i32_w]
            rfl
          refine pure_ (i := 15) (N := (some 52)) (v := ?_) (a' := ?_) #[true, true, true, true, true, true, true, true, true, true, true, true, true, true, true, true, false, false, false, false, false, false, false, false, false, false, false, false, false, false, false, false, false, false, false, false] rfl rfl (any_of HT_.out (by kernel_rfl)) (fun _ _ _ h => h) (Or.inl ⟨by rfl, ?_⟩) ?_ ?_
          rotate_left
          · intro w_
            go_simp
            try with_reducible rfl
          rotate_left
          · simp only [Act.put, List.setIfInBounds_toArray, List.set_cons_zero, List.set_cons_succ, i64_w, i32_w]
            rfl
          refine pure_ (i := 16) (N := (some 53)) (v := ?_) (a' := ?_) #[true, true, true, true, true, true, true, true, true, true, true, true, true, true, true, true, true, false, false, false, false, false, false, false, false, false, false, false, false, false, false, false, false, false, false, false] rfl rfl (any_of HT_.out (by kernel_rfl)) (fun _ _ _ h => h) (Or.inl ⟨by rfl, ?_⟩) ?_ ?_
          rotate_left
          · intro w_
            go_simp
            try with_reducible rfl
          rotate_left
          · simp only [Act.put, List.setIfInBounds_toArray, List.set_cons_zero, List.set_cons_succ, i64_w, i32_w]
            rfl
          refine pure_ (i := 18) (N := (some 55)) (v := ?_) (a' := ?_) #[true, true, true, true, true, true, true, true, true, true, true, true, true, true, true, true, true, false, true, false, false, false, false, false, false, false, false, false, false, false, false, false, false, false, false, false] rfl rfl (any_of HT_.out (by kernel_rfl)) (fun _ _ _ h => h) (Or.inl ⟨by rfl, ?_⟩) ?_ ?_
          rotate_left
          · intro w_
            go_simp
            try with_reducible rfl
          rotate_left
          · simp only [Act.put, List.setIfInBounds_toArray, List.set_cons_zero, List.set_cons_succ, i64_w, i32_w]
            rfl
          refine one_ (i := 17) (N := (some 54)) #[true, true, true, true, true, true, true, true, true, true, true, true, true, true, true, true, true, true, true, false, false, false, false, false, false, false, false, false, false, false, false, false, false, false, false, false] rfl rfl (one_of HT_.out (by kernel_rfl)) (by decide) (fun K hK => ?_)
          refine goes_ Try.func28 (by kernel_rfl) rfl #[.string name] (by rfl) rfl rfl (by (try simp only [List.map_toArray, List.map_cons, List.map_nil]); first | done | rfl) ?_
          refine (H17.out _).mono ?_
          rintro e w7_17 ⟨rfl, hb_1⟩
          refine ⟨_, rfl, ?_⟩
          have XA := Aside0.mk (XA.out.below hb_1)
          have HBS := Aside0.mk (below_step HBS.out hb_1)
          have hb_ : Below w7_12.heap.size w7_12 w7_17 := hb_1
          have HB := Aside0.mk (below_step HB.out hb_)
          refine hK.out _ _ hb_ (fun hHeld => ?_)
          clear hK K
          refine wpAnyLast_str (S' := fun x_ => Below w7_17.heap.size w7_17 x_) (fun x_ hx_ => below_step hHeld hx_) (Below.refl _ _) ?_
          clear hHeld
          (try clear hb)
          clear hb_
          have HS := Aside0.mk (Below.refl w7_17.heap.size w7_17)
          refine norm_ (a' := ?_) ?_ ?_
          rotate_left
          · show Act.put _ (some 54) _ = _
            simp only [Act.put, List.setIfInBounds_toArray, List.set_cons_zero, List.set_cons_succ, i64_w, i32_w]
            rfl
          refine one_ (i := 19) (N := (some 56)) #[true, true, true, true, true, true, true, true, true, true, true, true, true, true, true, true, true, true, true, true, false, false, false, false, false, false, false, false, false, false, false, false, false, false, false, false] rfl rfl (one_of HT_.out (by kernel_rfl)) (by decide) (fun K hK => ?_)
          refine goes_ Try.func34 (by kernel_rfl) rfl #[.string name] (by rfl) rfl rfl (by (try simp only [List.map_toArray, List.map_cons, List.map_nil]); first | done | rfl) ?_
          refine (H19.out _).mono ?_
          rintro e w7_19 ⟨rfl, hb_1⟩
          refine ⟨_, rfl, ?_⟩
          have XA := Aside0.mk (XA.out.below hb_1)
          have HBS := Aside0.mk (below_step HBS.out hb_1)
          have hb_ : Below w7_17.heap.size w7_17 w7_19 := hb_1
          have HB := Aside0.mk (below_step HB.out hb_)
          refine hK.out _ _ hb_ (fun hHeld => ?_)
          clear hK K
          refine wpAnyLast_str (S' := fun x_ => Below w7_19.heap.size w7_19 x_) (fun x_ hx_ => below_step hHeld hx_) (Below.refl _ _) ?_
          clear hHeld
          (try clear hb)
          clear hb_
          have HS := Aside0.mk (Below.refl w7_19.heap.size w7_19)
          refine norm_ (a' := ?_) ?_ ?_
          rotate_left
          · show Act.put _ (some 56) _ = _
            simp only [Act.put, List.setIfInBounds_toArray, List.set_cons_zero, List.set_cons_succ, i64_w, i32_w]
            rfl
          refine pure_ (i := 20) (N := (some 57)) (v := ?_) (a' := ?_) #[true, true, true, true, true, true, true, true, true, true, true, true, true, true, true, true, true, true, true, true, true, false, false, false, false, false, false, false, false, false, false, false, false, false, false, false] rfl rfl (any_of HT_.out (by kernel_rfl)) (fun _ _ _ h => h) (Or.inl ⟨by rfl, ?_⟩) ?_ ?_
          rotate_left
          · intro w_
            go_simp
            try with_reducible rfl
          rotate_left
          · simp only [Act.put, List.setIfInBounds_toArray, List.set_cons_zero, List.set_cons_succ, i64_w, i32_w]
            rfl
          refine pure_ (i := 21) (N := (some 58)) (v := ?_) (a' := ?_) #[true, true, true, true, true, true, true, true, true, true, true, true, true, true, true, true, true, true, true, true, true, true, false, false, false, false, false, false, false, false, false, false, false, false, false, false] rfl rfl (any_of HT_.out (by kernel_rfl)) (fun _ _ _ h => h) (Or.inl ⟨by rfl, ?_⟩) ?_ ?_
          rotate_left
          · intro w_
            go_simp
            try with_reducible rfl
          rotate_left
          · simp only [Act.put, List.setIfInBounds_toArray, List.set_cons_zero, List.set_cons_succ, i64_w, i32_w]
            rfl
          refine pure_ (i := 22) (N := (some 59)) (v := ?_) (a' := ?_) #[true, true, true, true, true, true, true, true, true, true, true, true, true, true, true, true, true, true, true, true, true, true, true, false, false, false, false, false, false, false, false, false, false, false, false, false] rfl rfl (any_of HT_.out (by kernel_rfl)) (fun _ _ _ h => h) (Or.inl ⟨by rfl, ?_⟩) ?_ ?_
          rotate_left
          · intro w_
            go_simp
            try with_reducible rfl
          rotate_left
          · simp only [Act.put, List.setIfInBounds_toArray, List.set_cons_zero, List.set_cons_succ, i64_w, i32_w]
            rfl
          refine pure_ (i := 23) (N := (some 60)) (v := ?_) (a' := ?_) #[true, true, true, true, true, true, true, true, true, true, true, true, true, true, true, true, true, true, true, true, true, true, true, true, false, false, false, false, false, false, false, false, false, false, false, false] rfl rfl (any_of HT_.out (by kernel_rfl)) (fun _ _ _ h => h) (Or.inl ⟨by rfl, ?_⟩) ?_ ?_
          rotate_left
          · intro w_
            go_simp
            try with_reducible rfl
          rotate_left
          · simp only [Act.put, List.setIfInBounds_toArray, List.set_cons_zero, List.set_cons_succ, i64_w, i32_w]
            rfl
          refine pure_ (i := 26) (N := (some 63)) (v := ?_) (a' := ?_) #[true, true, true, true, true, true, true, true, true, true, true, true, true, true, true, true, true, true, true, true, true, true, true, true, false, false, true, false, false, false, false, false, false, false, false, false] rfl rfl (any_of HT_.out (by kernel_rfl)) (fun _ _ _ h => h) (Or.inl ⟨by rfl, ?_⟩) ?_ ?_
          rotate_left
          · intro w_
            go_simp
            try with_reducible rfl
          rotate_left
          · simp only [Act.put, List.setIfInBounds_toArray, List.set_cons_zero, List.set_cons_succ, i64_w, i32_w]
            rfl
          refine take_ (i := 24) (N := (some 61)) (v := ?_) (a' := ?_) #[true, true, true, true, true, true, true, true, true, true, true, true, true, true, true, true, true, true, true, true, true, true, true, true, true, false, true, false, false, false, false, false, false, false, false, false] rfl rfl (take_ofW HT_.out HW_.out (by kernel_rfl)) (fun _ _ _ h => h) (Or.inl ⟨by rfl, ?_⟩) (Below.refl _ _) ?_ ?_
          rotate_left
          · intro Wx hWx
            have hc := (XA.out.below hWx).c0
            go_simp
            try with_reducible rfl
          rotate_left
          · simp only [Act.put, List.setIfInBounds_toArray, List.set_cons_zero, List.set_cons_succ, i64_w, i32_w]
            rfl
          refine take_ (i := 27) (N := (some 64)) (v := ?_) (a' := ?_) #[true, true, true, true, true, true, true, true, true, true, true, true, true, true, true, true, true, true, true, true, true, true, true, true, true, false, true, true, false, false, false, false, false, false, false, false] rfl rfl (take_ofW HT_.out HW_.out (by kernel_rfl)) (fun _ _ _ h => h) (Or.inl ⟨by rfl, ?_⟩) (Below.refl _ _) ?_ ?_
          rotate_left
          · intro Wx hWx
            have hc := (XA.out.below hWx).c0
            go_simp
            try with_reducible rfl
          rotate_left
          · simp only [Act.put, List.setIfInBounds_toArray, List.set_cons_zero, List.set_cons_succ, i64_w, i32_w]
            rfl
          refine pure_ (i := 28) (N := (some 65)) (v := ?_) (a' := ?_) #[true, true, true, true, true, true, true, true, true, true, true, true, true, true, true, true, true, true, true, true, true, true, true, true, true, false, true, true, true, false, false, false, false, false, false, false] rfl rfl (any_of HT_.out (by kernel_rfl)) (fun _ _ _ h => h) (Or.inl ⟨by rfl, ?_⟩) ?_ ?_
          rotate_left
          · intro w_
            go_simp
            try with_reducible rfl
          rotate_left
          · simp only [Act.put, List.setIfInBounds_toArray, List.set_cons_zero, List.set_cons_succ, i64_w, i32_w]
            rfl
          refine one_ (i := 25) (N := (some 62)) #[true, true, true, true, true, true, true, true, true, true, true, true, true, true, true, true, true, true, true, true, true, true, true, true, true, true, true, true, true, false, false, false, false, false, false, false] rfl rfl (one_of HT_.out (by kernel_rfl)) (by decide) (fun K hK => ?_)
          refine goes_ Try.func35 (by kernel_rfl) rfl #[.int .i64 x.at_] (by rfl) rfl rfl (by (try simp only [List.map_toArray, List.map_cons, List.map_nil]); first | done | rfl) ?_
          refine (H25.out _).mono ?_
          rintro e w7_25 ⟨rfl, hb_1⟩
          refine ⟨_, rfl, ?_⟩
          have XA := Aside0.mk (XA.out.below hb_1)
          have HBS := Aside0.mk (below_step HBS.out hb_1)
          have hb_ : Below w7_19.heap.size w7_19 w7_25 := hb_1
          have HB := Aside0.mk (below_step HB.out hb_)
          refine hK.out _ _ hb_ (fun hHeld => ?_)
          clear hK K
          refine wpAnyLast_str (S' := fun x_ => Below w7_25.heap.size w7_25 x_) (fun x_ hx_ => below_step hHeld hx_) (Below.refl _ _) ?_
          clear hHeld
          (try clear hb)
          clear hb_
          have HS := Aside0.mk (Below.refl w7_25.heap.size w7_25)
          refine norm_ (a' := ?_) ?_ ?_
          rotate_left
          · show Act.put _ (some 62) _ = _
            simp only [Act.put, List.setIfInBounds_toArray, List.set_cons_zero, List.set_cons_succ, i64_w, i32_w]
            rfl
          refine pure_ (i := 29) (N := (some 66)) (v := ?_) (a' := ?_) #[true, true, true, true, true, true, true, true, true, true, true, true, true, true, true, true, true, true, true, true, true, true, true, true, true, true, true, true, true, true, false, false, false, false, false, false] rfl rfl (any_of HT_.out (by kernel_rfl)) (fun _ _ _ h => h) (Or.inl ⟨by rfl, ?_⟩) ?_ ?_
          rotate_left
          · intro w_
            go_simp
            try with_reducible rfl
          rotate_left
          · simp only [Act.put, List.setIfInBounds_toArray, List.set_cons_zero, List.set_cons_succ, i64_w, i32_w]
            rfl
          refine pure_ (i := 30) (N := (some 67)) (v := undef) (a' := ?_) #[true, true, true, true, true, true, true, true, true, true, true, true, true, true, true, true, true, true, true, true, true, true, true, true, true, true, true, true, true, true, true, false, false, false, false, false] rfl rfl (any_of HT_.out (by kernel_rfl)) (fun _ _ _ h => h) (Or.inr ⟨by rfl, rfl⟩) ?_ ?_
          rotate_left
          · simp only [Act.put, List.setIfInBounds_toArray, List.set_cons_zero, List.set_cons_succ, i64_w, i32_w]
            rfl
          refine pure_ (i := 31) (N := (some 68)) (v := undef) (a' := ?_) #[true, true, true, true, true, true, true, true, true, true, true, true, true, true, true, true, true, true, true, true, true, true, true, true, true, true, true, true, true, true, true, true, false, false, false, false] rfl rfl (any_of HT_.out (by kernel_rfl)) (fun _ _ _ h => h) (Or.inr ⟨by rfl, rfl⟩) ?_ ?_
          rotate_left
          · simp only [Act.put, List.setIfInBounds_toArray, List.set_cons_zero, List.set_cons_succ, i64_w, i32_w]
            rfl
          refine pure_ (i := 32) (N := (some 69)) (v := undef) (a' := ?_) #[true, true, true, true, true, true, true, true, true, true, true, true, true, true, true, true, true, true, true, true, true, true, true, true, true, true, true, true, true, true, true, true, true, false, false, false] rfl rfl (any_of HT_.out (by kernel_rfl)) (fun _ _ _ h => h) (Or.inr ⟨by rfl, rfl⟩) ?_ ?_
          rotate_left
          · simp only [Act.put, List.setIfInBounds_toArray, List.set_cons_zero, List.set_cons_succ, i64_w, i32_w]
            rfl
          refine pure_ (i := 33) (N := (some 70)) (v := ?_) (a' := ?_) #[true, true, true, true, true, true, true, true, true, true, true, true, true, true, true, true, true, true, true, true, true, true, true, true, true, true, true, true, true, true, true, true, true, true, false, false] rfl rfl (any_of HT_.out (by kernel_rfl)) (fun _ _ _ h => h) (Or.inl ⟨by rfl, ?_⟩) ?_ ?_
          rotate_left
          · intro w_
            go_simp
            try with_reducible rfl
          rotate_left
          · simp only [Act.put, List.setIfInBounds_toArray, List.set_cons_zero, List.set_cons_succ, i64_w, i32_w]
            rfl
          refine pure_ (i := 34) (N := (some 71)) (v := ?_) (a' := ?_) #[true, true, true, true, true, true, true, true, true, true, true, true, true, true, true, true, true, true, true, true, true, true, true, true, true, true, true, true, true, true, true, true, true, true, true, false] rfl rfl (any_of HT_.out (by kernel_rfl)) (fun _ _ _ h => h) (Or.inl ⟨by rfl, ?_⟩) ?_ ?_
          rotate_left
          · intro w_
            go_simp
            try with_reducible rfl
          rotate_left
          · simp only [Act.put, List.setIfInBounds_toArray, List.set_cons_zero, List.set_cons_succ, i64_w, i32_w]
            rfl
          refine pure_ (i := 35) (N := (some 72)) (v := ?_) (a' := ?_) #[true, true, true, true, true, true, true, true, true, true, true, true, true, true, true, true, true, true, true, true, true, true, true, true, true, true, true, true, true, true, true, true, true, true, true, true] rfl rfl (any_of HT_.out (by kernel_rfl)) (fun _ _ _ h => h) (Or.inl ⟨by rfl, ?_⟩) ?_ ?_
          rotate_left
          · intro w_
            go_simp
            try with_reducible rfl
          rotate_left
          · simp only [Act.put, List.setIfInBounds_toArray, List.set_cons_zero, List.set_cons_succ, i64_w, i32_w]
            rfl
          refine done_ (done_of HT_.out (by kernel_rfl)) ?_
          go_wp2_with fail
          have HBo := Aside0.mk (below_step HBo.out HB.out)
          clear HB hlo hup H10 H12 H17 H19 H25
          generalize w7_25 = V0 at *
          have HB : Aside0 (Below V0.heap.size V0 V0) := ⟨Below.refl _ _⟩
          refine start_ (n := 18) (S := fun x_ => Below V0.heap.size V0 x_) (ds := []) #[false, false, false, false, false, false, false, false, false, false, false, false, false, false, false, false, false, false] (by kernel_rfl) rfl rfl (pw_below_drewN (Below.refl _ _) 1) (fun hHeld => ?_)
          refine with_tabW tab_magpielaw04_RecordIs_9 bits_magpielaw04_RecordIs_9 (fun HT_ HW_ => ?_)
          have HB := Aside0.mk (pw_below_drewN HB.out 1)
          change Aside0 (Below _ _ (World.drew V0)) at HB
          change Below _ _ (World.drew V0) at hHeld
          have hSz : (World.drew V0).heap.size = V0.heap.size := rfl
          have XA := Aside0.mk (show BoxE (World.drew V0) j x from XA.out)
          have HBS : Aside0 (Below W.heap.size W (World.drew V0)) := ⟨pw_below_drewN HBS.out 1⟩
          refine wpAnyLast_str (S' := fun x_ => Below (World.drew V0).heap.size (World.drew V0) x_) (fun x_ hx_ => below_step hHeld hx_) (Below.refl _ _) ?_
          clear hHeld hSz
          generalize World.drew V0 = V0d at *
          have HS := Aside0.mk (Below.refl V0d.heap.size V0d)
          refine take_ (i := 0) (N := (some 73)) (v := ?_) (a' := ?_) #[true, false, false, false, false, false, false, false, false, false, false, false, false, false, false, false, false, false] rfl rfl (take_ofW HT_.out HW_.out (by kernel_rfl)) (fun _ _ _ h => h) (Or.inl ⟨by rfl, ?_⟩) (Below.refl _ _) ?_ ?_
          rotate_left
          · intro Wx hWx
            have h0 := (XA.out.below hWx).c0
            have h1 := (XA.out.below hWx).c1
            have h2 := (XA.out.below hWx).c2
            go_simp
            try with_reducible rfl
          rotate_left
          · simp only [Act.put, List.setIfInBounds_toArray, List.set_cons_zero, List.set_cons_succ, i64_w, i32_w]
            rfl
          refine take_ (i := 2) (N := (some 75)) (v := ?_) (a' := ?_) #[true, false, true, false, false, false, false, false, false, false, false, false, false, false, false, false, false, false] rfl rfl (take_ofW HT_.out HW_.out (by kernel_rfl)) (fun _ _ _ h => h) (Or.inl ⟨by rfl, ?_⟩) (Below.refl _ _) ?_ ?_
          rotate_left
          · intro Wx hWx
            have h0 := (XA.out.below hWx).c0
            have h1 := (XA.out.below hWx).c1
            have h2 := (XA.out.below hWx).c2
            go_simp
            try with_reducible rfl
          rotate_left
          · simp only [Act.put, List.setIfInBounds_toArray, List.set_cons_zero, List.set_cons_succ, i64_w, i32_w]
            rfl
          refine one_ (i := 1) (N := (some 74)) #[true, true, true, false, false, false, false, false, false, false, false, false, false, false, false, false, false, false] rfl rfl (one_of HT_.out (by kernel_rfl)) (by decide) (fun K hK => ?_)
          refine goes_ Try.func29 (by kernel_rfl) rfl #[.agg #[.int .i64 x.at_, .slice x.A x.ls.length x.c, .string x.line]] (by rfl) rfl rfl (by (try simp only [List.map_toArray, List.map_cons, List.map_nil]); first | done | rfl) ?_
          refine (HS1.out _ HBS.out).mono ?_
          rintro e w9_1 ⟨rfl, hb_1⟩
          refine ⟨_, rfl, ?_⟩
          have XA := Aside0.mk (XA.out.below hb_1)
          have HBS := Aside0.mk (below_step HBS.out hb_1)
          have hb_ : Below V0d.heap.size V0d w9_1 := hb_1
          have HB := Aside0.mk (below_step HB.out hb_)
          refine hK.out _ _ hb_ (fun hHeld => ?_)
          clear hK K
          refine wpAnyLast_str (S' := fun x_ => Below w9_1.heap.size w9_1 x_) (fun x_ hx_ => below_step hHeld hx_) (Below.refl _ _) ?_
          clear hHeld
          (try clear hb)
          clear hb_
          have HS := Aside0.mk (Below.refl w9_1.heap.size w9_1)
          refine norm_ (a' := ?_) ?_ ?_
          rotate_left
          · show Act.put _ (some 74) _ = _
            simp only [Act.put, List.setIfInBounds_toArray, List.set_cons_zero, List.set_cons_succ, i64_w, i32_w]
            rfl
          refine one_ (i := 3) (N := (some 76)) #[true, true, true, true, false, false, false, false, false, false, false, false, false, false, false, false, false, false] rfl rfl (one_of HT_.out (by kernel_rfl)) (by decide) (fun K hK => ?_)
          refine goes_ Try.func36 (by kernel_rfl) rfl #[.agg #[.int .i64 x.at_, .slice x.A x.ls.length x.c, .string x.line]] (by rfl) rfl rfl (by (try simp only [List.map_toArray, List.map_cons, List.map_nil]); first | done | rfl) ?_
          refine (HS3.out _ HBS.out).mono ?_
          rintro e w9_3 ⟨rfl, hb_1⟩
          refine ⟨_, rfl, ?_⟩
          have XA := Aside0.mk (XA.out.below hb_1)
          have HBS := Aside0.mk (below_step HBS.out hb_1)
          have hb_ : Below w9_1.heap.size w9_1 w9_3 := hb_1
          have HB := Aside0.mk (below_step HB.out hb_)
          refine hK.out _ _ hb_ (fun hHeld => ?_)
          clear hK K
          refine wpAnyLast_str (S' := fun x_ => Below w9_3.heap.size w9_3 x_) (fun x_ hx_ => below_step hHeld hx_) (Below.refl _ _) ?_
          clear hHeld
          (try clear hb)
          clear hb_
          have HS := Aside0.mk (Below.refl w9_3.heap.size w9_3)
          refine norm_ (a' := ?_) ?_ ?_
          rotate_left
          · show Act.put _ (some 76) _ = _
            simp only [Act.put, List.setIfInBounds_toArray, List.set_cons_zero, List.set_cons_succ, i64_w, i32_w]
            rfl
          refine pure_ (i := 4) (N := (some 77)) (v := ?_) (a' := ?_) #[true, true, true, true, true, false, false, false, false, false, false, false, false, false, false, false, false, false] rfl rfl (any_of HT_.out (by kernel_rfl)) (fun _ _ _ h => h) (Or.inl ⟨by rfl, ?_⟩) ?_ ?_
          rotate_left
          · intro w_
            go_simp
            try with_reducible rfl
          rotate_left
          · simp only [Act.put, List.setIfInBounds_toArray, List.set_cons_zero, List.set_cons_succ, i64_w, i32_w]
            rfl
          refine pure_ (i := 5) (N := (some 78)) (v := ?_) (a' := ?_) #[true, true, true, true, true, true, false, false, false, false, false, false, false, false, false, false, false, false] rfl rfl (any_of HT_.out (by kernel_rfl)) (fun _ _ _ h => h) (Or.inl ⟨by rfl, ?_⟩) ?_ ?_
          rotate_left
          · intro w_
            go_simp
            try with_reducible rfl
          rotate_left
          · simp only [Act.put, List.setIfInBounds_toArray, List.set_cons_zero, List.set_cons_succ, i64_w, i32_w]
            rfl
          refine pure_ (i := 6) (N := (some 79)) (v := ?_) (a' := ?_) #[true, true, true, true, true, true, true, false, false, false, false, false, false, false, false, false, false, false] rfl rfl (any_of HT_.out (by kernel_rfl)) (fun _ _ _ h => h) (Or.inl ⟨by rfl, ?_⟩) ?_ ?_
          rotate_left
          · intro w_
            go_simp
            try with_reducible rfl
          rotate_left
          · simp only [Act.put, List.setIfInBounds_toArray, List.set_cons_zero, List.set_cons_succ, i64_w, i32_w]
            rfl
          refine pure_ (i := 11) (N := (some 84)) (v := ?_) (a' := ?_) #[true, true, true, true, true, true, true, false, false, false, false, true, false, false, false, false, false, false] rfl rfl (any_of HT_.out (by kernel_rfl)) (fun _ _ _ h => h) (Or.inl ⟨by rfl, ?_⟩) ?_ ?_
          rotate_left
          · intro w_
            go_simp
            try with_reducible rfl
          rotate_left
          · simp only [Act.put, List.setIfInBounds_toArray, List.set_cons_zero, List.set_cons_succ, i64_w, i32_w]
            rfl
          refine take_ (i := 8) (N := (some 81)) (v := ?_) (a' := ?_) #[true, true, true, true, true, true, true, false, true, false, false, true, false, false, false, false, false, false] rfl rfl (take_ofW HT_.out HW_.out (by kernel_rfl)) (fun _ _ _ h => h) (Or.inl ⟨by rfl, ?_⟩) (Below.refl _ _) ?_ ?_
          rotate_left
          · intro Wx hWx
            have h0 := (XA.out.below hWx).c0
            have h1 := (XA.out.below hWx).c1
            have h2 := (XA.out.below hWx).c2
            go_simp
            try with_reducible rfl
          rotate_left
          · simp only [Act.put, List.setIfInBounds_toArray, List.set_cons_zero, List.set_cons_succ, i64_w, i32_w]
            rfl
          refine take_ (i := 12) (N := (some 85)) (v := ?_) (a' := ?_) #[true, true, true, true, true, true, true, false, true, false, false, true, true, false, false, false, false, false] rfl rfl (take_ofW HT_.out HW_.out (by kernel_rfl)) (fun _ _ _ h => h) (Or.inl ⟨by rfl, ?_⟩) (Below.refl _ _) ?_ ?_
          rotate_left
          · intro Wx hWx
            have h0 := (XA.out.below hWx).c0
            have h1 := (XA.out.below hWx).c1
            have h2 := (XA.out.below hWx).c2
            go_simp
            try with_reducible rfl
          rotate_left
          · simp only [Act.put, List.setIfInBounds_toArray, List.set_cons_zero, List.set_cons_succ, i64_w, i32_w]
            rfl
          refine one_ (i := 7) (N := (some 80)) #[true, true, true, true, true, true, true, true, true, false, false, true, true, false, false, false, false, false] rfl rfl (one_of HT_.out (by kernel_rfl)) (by decide) (fun K hK => ?_)
          refine value_ (w1 := ?_) (v := ?_) (by rfl) rfl ?_ ?_
          rotate_left 2
          · go_simp
            constructor
            · rfl
            · rfl
          have hb : Below w9_3.heap.size w9_3 (Lib.bytesWorld w9_3 5 b) := below_step HS.out (conv_below w9_3 5 b)
          have HO := Aside0.mk (own_conv w9_3 w9_3.heap.size 5 b (by have := Hb.out; simp only [maxLen]; omega) HS.out.size)
          have HInB := Aside0.mk (HIn.out w9_3 HBS.out)
          have hb_ : Below w9_3.heap.size w9_3 (Lib.bytesWorld w9_3 5 b) := hb
          refine hK.out _ _ hb_ (fun hHeld => ?_)
          clear hK K
          clear hHeld
          (try clear hb)
          generalize (Lib.bytesWorld w9_3 5 b) = w9_7 at *
          have HS := Aside0.mk hb_
          clear hb_
          refine norm_ (a' := ?_) ?_ ?_
          rotate_left
          · show Act.put _ (some 80) _ = _
            simp only [Act.put, List.setIfInBounds_toArray, List.set_cons_zero, List.set_cons_succ, i64_w, i32_w]
            rfl
          refine one_ (i := 9) (N := (some 82)) #[true, true, true, true, true, true, true, true, true, true, false, true, true, false, false, false, false, false] rfl rfl (one_of HT_.out (by kernel_rfl)) (by decide) (fun K hK => ?_)
          refine goes_ Try.func37 (by kernel_rfl) rfl #[.slice (some ⟨_, 0, none⟩) b.size _, .agg #[.int .i64 x.at_, .slice x.A x.ls.length x.c, .string x.line]] (by rfl) rfl rfl (by (try simp only [List.map_toArray, List.map_cons, List.map_nil]); first | done | rfl) ?_
          refine (HPut.out w9_3 w9_7 _ HInB.out HS.out HO.out).mono ?_
          rintro e w9_9 ⟨v9, rfl, hO9, hg9, -⟩
          refine ⟨_, rfl, ?_⟩
          have XA := Aside0.mk (XA.out.below (own_grown HO.out HS.out (Nat.le_refl _) HS.out.size hg9))
          have HBS := Aside0.mk (below_step HBS.out (own_grown HO.out HS.out (Nat.le_refl _) HS.out.size hg9))
          have HO9 := Aside0.mk hO9
          have hb_ : Below w9_3.heap.size w9_3 w9_9 := own_grown HO.out HS.out (Nat.le_refl _) HS.out.size hg9
          have HB := Aside0.mk (below_step HB.out hb_)
          refine hK.out _ _ hb_ (fun hHeld => ?_)
          clear hK K
          refine wpAnyLast_str (S' := fun x_ => Below w9_9.heap.size w9_9 x_) (fun x_ hx_ => below_step hHeld hx_) (Below.refl _ _) ?_
          clear hHeld
          (try clear hb)
          clear hb_
          have HS := Aside0.mk (Below.refl w9_9.heap.size w9_9)
          refine norm_ (a' := ?_) ?_ ?_
          rotate_left
          · show Act.put _ (some 82) _ = _
            simp only [Act.put, List.setIfInBounds_toArray, List.set_cons_zero, List.set_cons_succ, i64_w, i32_w]
            rfl
          refine take_ (i := 10) (N := (some 83)) (v := ?_) (a' := ?_) #[true, true, true, true, true, true, true, true, true, true, true, true, true, false, false, false, false, false] rfl rfl (take_ofW HT_.out HW_.out (by kernel_rfl)) (fun _ _ _ h => h) (Or.inl ⟨by rfl, ?_⟩) (Below.refl _ _) ?_ ?_
          rotate_left
          · intro Wx hWx
            have hc := str_of (HO9.out.below hWx)
            go_simp
            try with_reducible rfl
          rotate_left
          · simp only [Act.put, List.setIfInBounds_toArray, List.set_cons_zero, List.set_cons_succ, i64_w, i32_w]
            rfl
          refine one_ (i := 13) (N := (some 86)) #[true, true, true, true, true, true, true, true, true, true, true, true, true, true, false, false, false, false] rfl rfl (one_of HT_.out (by kernel_rfl)) (by decide) (fun K hK => ?_)
          refine goes_ Try.func38 (by kernel_rfl) rfl #[.agg #[.int .i64 x.at_, .slice x.A x.ls.length x.c, .string x.line]] (by rfl) rfl rfl (by (try simp only [List.map_toArray, List.map_cons, List.map_nil]); first | done | rfl) ?_
          refine (HS13.out _ HBS.out).mono ?_
          rintro e w9_13 ⟨rfl, hb_1⟩
          refine ⟨_, rfl, ?_⟩
          have XA := Aside0.mk (XA.out.below hb_1)
          have HBS := Aside0.mk (below_step HBS.out hb_1)
          have hb_ : Below w9_9.heap.size w9_9 w9_13 := hb_1
          have HB := Aside0.mk (below_step HB.out hb_)
          refine hK.out _ _ hb_ (fun hHeld => ?_)
          clear hK K
          refine wpAnyLast_str (S' := fun x_ => Below w9_13.heap.size w9_13 x_) (fun x_ hx_ => below_step hHeld hx_) (Below.refl _ _) ?_
          clear hHeld
          (try clear hb)
          clear hb_
          have HS := Aside0.mk (Below.refl w9_13.heap.size w9_13)
          refine norm_ (a' := ?_) ?_ ?_
          rotate_left
          · show Act.put _ (some 86) _ = _
            simp only [Act.put, List.setIfInBounds_toArray, List.set_cons_zero, List.set_cons_succ, i64_w, i32_w]
            rfl
          refine pure_ (i := 14) (N := (some 87)) (v := ?_) (a' := ?_) #[true, true, true, true, true, true, true, true, true, true, true, true, true, true, true, false, false, false] rfl rfl (any_of HT_.out (by kernel_rfl)) (fun _ _ _ h => h) (Or.inl ⟨by rfl, ?_⟩) ?_ ?_
          rotate_left
          · intro w_
            go_simp
            try with_reducible rfl
          rotate_left
          · simp only [Act.put, List.setIfInBounds_toArray, List.set_cons_zero, List.set_cons_succ, i64_w, i32_w]
            rfl
          refine pure_ (i := 15) (N := (some 88)) (v := ?_) (a' := ?_) #[true, true, true, true, true, true, true, true, true, true, true, true, true, true, true, true, false, false] rfl rfl (any_of HT_.out (by kernel_rfl)) (fun _ _ _ h => h) (Or.inl ⟨by rfl, ?_⟩) ?_ ?_
          rotate_left
          · intro w_
            go_simp
            try with_reducible rfl
          rotate_left
          · simp only [Act.put, List.setIfInBounds_toArray, List.set_cons_zero, List.set_cons_succ, i64_w, i32_w]
            rfl
          refine pure_ (i := 16) (N := (some 89)) (v := ?_) (a' := ?_) #[true, true, true, true, true, true, true, true, true, true, true, true, true, true, true, true, true, false] rfl rfl (any_of HT_.out (by kernel_rfl)) (fun _ _ _ h => h) (Or.inl ⟨by rfl, ?_⟩) ?_ ?_
          rotate_left
          · intro w_
            go_simp
            try with_reducible rfl
          rotate_left
          · simp only [Act.put, List.setIfInBounds_toArray, List.set_cons_zero, List.set_cons_succ, i64_w, i32_w]
            rfl
          refine pure_ (i := 17) (N := (some 6)) (v := ?_) (a' := ?_) #[true, true, true, true, true, true, true, true, true, true, true, true, true, true, true, true, true, true] rfl rfl (any_of HT_.out (by kernel_rfl)) (fun _ _ _ h => h) (Or.inl ⟨by rfl, ?_⟩) ?_ ?_
          rotate_left
          · intro w_
            go_simp
            try with_reducible rfl
          rotate_left
          · simp only [Act.put, List.setIfInBounds_toArray, List.set_cons_zero, List.set_cons_succ, i64_w, i32_w]
            rfl
          refine done_ (done_of HT_.out (by kernel_rfl)) ?_
          go_wp2_with fail
          go_ret
          exact ⟨by rw [HE.out]; simp, below_step HBo.out HB.out⟩
      · have m1 : decide ((200 : Int) < (b.size : Int)) = true := decide_eq_true (by omega)
        have m2 : decide (200 < b.size) = true := decide_eq_true (by omega)
        clear hb200
        go_wp2
        go_ret
        exact ⟨rfl, HBo.out⟩
    · have n1 : decide ((200 : Int) < (name.size : Int)) = true := decide_eq_true (by omega)
      have n2 : decide (200 < name.size) = true := decide_eq_true (by omega)
      clear hn200
      go_wp2
      go_ret
      exact ⟨rfl, HBo.out⟩
end Go.Proofs.Ytfejjfbhlmjkeaa.C
