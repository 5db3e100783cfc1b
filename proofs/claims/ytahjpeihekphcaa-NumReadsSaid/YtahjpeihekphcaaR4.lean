/- Two readers of the same bytes answer the same. -/
import Derived.Test.YtahjpeihekphcaaR3
set_option linter.unusedVariables false
set_option linter.unusedSimpArgs false
namespace Go.Proofs.Ytahjpeihekphcaa.N
open Go.RowKit Go.Proofs.YtahjpeihekphcaaW.PrintWords Go.Proofs.YtahjpeihekphcaaW.PrintLast Go.Proofs.Ytahjpeihekphcaa.Bt Go.Proofs.Ytahjpeihekphcaa.B Go.Proofs.Ytahjpeihekphcaa.Vi Go.Proofs.Ytahjpeihekphcaa.Reg

/-- What is written lies in two blocks alone, and in new ones. -/
structure Gr2 (g m : Nat) (w w' : World) : Prop where
  os : w'.os = w.os
  tape : w'.tape = w.tape
  output : w'.output = w.output
  size : w.heap.size ≤ w'.heap.size
  block : ∀ i, i < w.heap.size → i ≠ g → i ≠ m → w'.heap[i]? = w.heap[i]?
theorem Gr2.refl {g m : Nat} (w : World) : Gr2 g m w w := ⟨rfl, rfl, rfl, Nat.le_refl _, fun _ _ _ _ => rfl⟩
theorem Gr2.trans {g m : Nat} {a b c : World} (h : Gr2 g m a b) (k : Gr2 g m b c) : Gr2 g m a c :=
  ⟨k.os.trans h.os, k.tape.trans h.tape, k.output.trans h.output, Nat.le_trans h.size k.size, fun i hi h1 h2 => (k.block i (Nat.lt_of_lt_of_le hi h.size) h1 h2).trans (h.block i hi h1 h2)⟩
theorem Gr2.drew {g m : Nat} {a b : World} (h : Gr2 g m a b) : Gr2 g m a (b.drewN 1) := ⟨h.os, h.tape, h.output, h.size, h.block⟩
theorem Gr2.of1 {g m : Nat} {a b : World} (h : a.grownBy b (some g)) : Gr2 g m a b := ⟨h.os, h.tape, h.output, h.size, fun i hi h1 _ => h.block i hi (by simpa using h1)⟩
theorem Gr2.of2 {g m : Nat} {a b : World} (h : a.grownBy b (some m)) : Gr2 g m a b := ⟨h.os, h.tape, h.output, h.size, fun i hi _ h2 => h.block i hi (by simpa using h2)⟩
theorem Gr2.of0 {g m : Nat} {a b : World} (h : a.grownBy b none) : Gr2 g m a b := ⟨h.os, h.tape, h.output, h.size, fun i hi _ _ => h.block i hi (by simp)⟩
theorem Gr2.below {g m B : Nat} {w a b : World} (h : Gr2 g m a b) (hb : Below B w a) (hB : B ≤ a.heap.size) (hg : B ≤ g) (hm : B ≤ m) : Below B w b :=
  hb.trans ⟨h.os, h.tape, h.output, h.size, fun k hk => h.block k (Nat.lt_of_lt_of_le hk hB) (by omega) (by omega)⟩
/-- A box with a question. -/
def Ax (w : World) (j : Nat) (kind : Int) (most : Nat) : Prop := w.heap[j]? = some (.cells #[.int .i64 kind, .int .u64 (most : Int)] 54 (0, 0))
theorem Ax.cell1 {w : World} {j most : Nat} {kind : Int} (h : Ax w j kind most) : w.cell? ⟨j, 1, none⟩ = some (.int .u64 (most : Int)) := by rw [blk_cell h]; rfl
theorem Ax.cell0 {w : World} {j most : Nat} {kind : Int} (h : Ax w j kind most) : w.cell? ⟨j, 0, none⟩ = some (.int .i64 kind) := by rw [blk_cell h]; rfl
theorem Ax.kept {w w' : World} {g m j most : Nat} {kind : Int} (h : Ax w j kind most) (hg : Gr2 g m w w') (h1 : j ≠ g ∧ j ≠ m) : Ax w' j kind most := (hg.block j (blk_lt h) h1.1 h1.2).trans h
theorem Ax.new (w : World) (kind : Int) (most : Nat) : Ax (w.alloc (.cells #[.int .i64 kind, .int .u64 (most : Int)] 54)) w.heap.size kind most := Go.heap_alloc_new w _
def T_magpielaw01_same_4 : Bool × List (List Nat × List Nat) := (true, [([], []), ([], []), ([1], [1]), ([0, 2], [0, 2]), ([], []), ([], []), ([5], [5]), ([4, 6, 3], [4, 6]), ([3, 7], [3, 7]), ([8, 7, 0, 1, 2, 3, 4, 5, 6, 7, 8], [8])])
def B_magpielaw01_same_4 : List Nat := [0, 0, 2, 7, 0, 0, 32, 127, 255, 511]
theorem tab_magpielaw01_same_4 : rtab .any (opsOf Try.f37 4) = T_magpielaw01_same_4 := by kernel_rfl
theorem bits_magpielaw01_same_4 : waitsOk T_magpielaw01_same_4.2 B_magpielaw01_same_4 = true := by kernel_rfl
set_option maxHeartbeats 1000000 in
theorem same_c0 (g b mb : Nat) (S : ByteArray) (st st2 : Option (List UInt8)) (kind : Int) (most : Nat) (w : World) (hR : RS w g b st) (hM : MR w mb S st) (hne : g ≠ mb ∧ b ≠ mb) (hk0 : (kind == 0) = true) (m : Nat)  (HC : Aside0 (∀ W, RS W g b st → Calls Try.prog 24 #[.pointer (some ⟨g, 0, none⟩), .int .u64 (most : Int)] W fun e w' => e = .returned (.int .u64 (m : Int)) ∧ RS w' g b st2 ∧ W.grownBy w' (some g))) (HD : Aside0 (∀ W, MR W mb S st → Calls Try.prog 45 #[.pointer (some ⟨mb, 0, none⟩), .int .u64 (most : Int)] W fun e w' => e = .returned (.int .u64 (m : Int)) ∧ MR w' mb S st2 ∧ W.grownBy w' (some mb))) :
    Calls Try.prog 37 #[.pointer (some ⟨g, 0, none⟩), .pointer (some ⟨mb, 0, none⟩), .agg #[.int .i64 kind, .int .u64 (most : Int)]] w fun e w' => e = .returned (.bool true) ∧ RS w' g b st2 ∧ MR w' mb S st2 ∧ Gr2 g mb w w' := by
  have hlt := hR.lt
  have hlt2 := hM.lt
  obtain ⟨o, ho⟩ : ∃ o, o = (Obj.cells #[.int .i64 kind, .int .u64 (most : Int)] 54) := ⟨_, rfl⟩
  obtain ⟨W, hW⟩ : ∃ W, W = w.alloc o := ⟨_, rfl⟩
  have HB : Aside0 (Gr2 g mb w W) := ⟨by rw [hW]; exact Gr2.of0 (World.grownBy_alloc w o none)⟩
  have HR : Aside0 (RS W g b st) := ⟨by rw [hW]; exact hR.kept (World.grownBy_alloc w o none) (by simp) (by simp)⟩
  have HM : Aside0 (MR W mb S st) := ⟨by rw [hW]; exact hM.kept (World.grownBy_alloc w o none) (by simp)⟩
  have HX : Aside0 (Ax W w.heap.size kind most) := ⟨by rw [hW, ho]; exact Ax.new w kind most⟩
  obtain ⟨j, hj⟩ : ∃ j, j = w.heap.size := ⟨_, rfl⟩
  have Hj : Aside0 (j ≠ g ∧ j ≠ mb) := ⟨⟨by omega, by omega⟩⟩
  have Hne := Aside0.mk hne
  rw [← hj] at HX
  rw [ho] at hW
  have HW := Aside0.mk hW
  have HJ := Aside0.mk hj
  clear hW ho hj hlt hlt2 hR hM hne
  go_enter Try.func37, Try.ntmps37
  go_wp2_with fail
  try rw [← HW.out]
  try rw [← HJ.out]
  clear HW HJ
  refine start_ (n := 10) (S := fun x_ => Gr2 g mb W x_) (ds := []) #[false, false, false, false, false, false, false, false, false, false] (by kernel_rfl) rfl rfl (Gr2.drew (Gr2.refl _)) (fun hHeld => ?_)
  refine with_tabW tab_magpielaw01_same_4 bits_magpielaw01_same_4 (fun HT_ HW_ => ?_)
  have HB := Aside0.mk (Gr2.drew HB.out)
  change Aside0 (Gr2 g mb _ (World.drew W)) at HB
  change Gr2 g mb _ (World.drew W) at hHeld
  have hSz : (World.drew W).heap.size = W.heap.size := rfl
  have HR := Aside0.mk (show RS (World.drew W) g b st from HR.out)
  have HM := Aside0.mk (show MR (World.drew W) mb S st from HM.out)
  have HX := Aside0.mk (show Ax (World.drew W) j kind most from HX.out)
  refine wpAnyLast_str (S' := fun x_ => Gr2 g mb (World.drew W) x_) (fun x_ hx_ => Gr2.trans hHeld hx_) (Gr2.refl _) ?_
  clear hHeld hSz
  generalize World.drew W = Wd at *
  have HS := Aside0.mk (show Gr2 g mb Wd Wd from Gr2.refl Wd)
  refine pure_ (i := 0) (N := (some 16)) (v := ?_) (a' := ?_) #[true, false, false, false, false, false, false, false, false, false] rfl rfl (any_of HT_.out (by kernel_rfl)) (fun _ _ _ h => h) (Or.inl ⟨by rfl, ?_⟩) ?_ ?_
  rotate_left
  · intro w_
    go_simp
    try with_reducible rfl
  rotate_left
  · simp only [Act.put, List.setIfInBounds_toArray, List.set_cons_zero, List.set_cons_succ, i64_w, i32_w]
    rfl
  refine pure_ (i := 1) (N := (some 17)) (v := ?_) (a' := ?_) #[true, true, false, false, false, false, false, false, false, false] rfl rfl (any_of HT_.out (by kernel_rfl)) (fun _ _ _ h => h) (Or.inl ⟨by rfl, ?_⟩) ?_ ?_
  rotate_left
  · intro w_
    go_simp
    try with_reducible rfl
  rotate_left
  · simp only [Act.put, List.setIfInBounds_toArray, List.set_cons_zero, List.set_cons_succ, i64_w, i32_w]
    rfl
  refine pure_ (i := 4) (N := (some 20)) (v := ?_) (a' := ?_) #[true, true, false, false, true, false, false, false, false, false] rfl rfl (any_of HT_.out (by kernel_rfl)) (fun _ _ _ h => h) (Or.inl ⟨by rfl, ?_⟩) ?_ ?_
  rotate_left
  · intro w_
    go_simp
    try with_reducible rfl
  rotate_left
  · simp only [Act.put, List.setIfInBounds_toArray, List.set_cons_zero, List.set_cons_succ, i64_w, i32_w]
    rfl
  refine pure_ (i := 5) (N := (some 21)) (v := ?_) (a' := ?_) #[true, true, false, false, true, true, false, false, false, false] rfl rfl (any_of HT_.out (by kernel_rfl)) (fun _ _ _ h => h) (Or.inl ⟨by rfl, ?_⟩) ?_ ?_
  rotate_left
  · intro w_
    go_simp
    try with_reducible rfl
  rotate_left
  · simp only [Act.put, List.setIfInBounds_toArray, List.set_cons_zero, List.set_cons_succ, i64_w, i32_w]
    rfl
  refine take_ (i := 2) (N := (some 18)) (v := ?_) (a' := ?_) #[true, true, true, false, true, true, false, false, false, false] rfl rfl (take_ofW HT_.out HW_.out (by kernel_rfl)) (fun _ _ _ h => h) (Or.inl ⟨by rfl, ?_⟩) (Gr2.refl _) ?_ ?_
  rotate_left
  · intro Wx hWx
    have hc := (HX.out.kept hWx Hj.out).cell1
    go_simp
    try with_reducible rfl
  rotate_left
  · simp only [Act.put, List.setIfInBounds_toArray, List.set_cons_zero, List.set_cons_succ, i64_w, i32_w]
    rfl
  refine take_ (i := 6) (N := (some 22)) (v := ?_) (a' := ?_) #[true, true, true, false, true, true, true, false, false, false] rfl rfl (take_ofW HT_.out HW_.out (by kernel_rfl)) (fun _ _ _ h => h) (Or.inl ⟨by rfl, ?_⟩) (Gr2.refl _) ?_ ?_
  rotate_left
  · intro Wx hWx
    have hc := (HX.out.kept hWx Hj.out).cell1
    go_simp
    try with_reducible rfl
  rotate_left
  · simp only [Act.put, List.setIfInBounds_toArray, List.set_cons_zero, List.set_cons_succ, i64_w, i32_w]
    rfl
  refine one_ (i := 3) (N := (some 19)) #[true, true, true, true, true, true, true, false, false, false] rfl rfl (one_of HT_.out (by kernel_rfl)) (by decide) (fun K hK => ?_)
  refine goes_ Try.func24 (by kernel_rfl) rfl #[.pointer (some ⟨g, 0, none⟩), .int .u64 (most : Int)] (by rfl) rfl rfl (by (try simp only [List.map_toArray, List.map_cons, List.map_nil]); first | done | rfl) ?_
  refine (HC.out _ HR.out).mono ?_
  rintro e w4_3 ⟨rfl, hr_, hg_⟩
  refine ⟨_, rfl, ?_⟩
  have HX := Aside0.mk (HX.out.kept (Gr2.of1 (m := mb) hg_) Hj.out)
  have HM := Aside0.mk (HM.out.kept hg_ (by have := Hne.out.1; simpa using Ne.symm this))
  have HR := Aside0.mk hr_
  clear hr_
  have hb_ : Gr2 g mb Wd w4_3 := Gr2.of1 hg_
  have HB := Aside0.mk (Gr2.trans HB.out hb_)
  refine hK.out _ _ hb_ (fun hHeld => ?_)
  clear hK K
  refine wpAnyLast_str (S' := fun x_ => Gr2 g mb w4_3 x_) (fun x_ hx_ => Gr2.trans hHeld hx_) (Gr2.refl _) ?_
  clear hHeld
  (try clear hb)
  clear hb_
  have HS := Aside0.mk (show Gr2 g mb w4_3 w4_3 from Gr2.refl w4_3)
  refine norm_ (a' := ?_) ?_ ?_
  rotate_left
  · show Act.put _ (some 19) _ = _
    simp only [Act.put, List.setIfInBounds_toArray, List.set_cons_zero, List.set_cons_succ, i64_w, i32_w]
    rfl
  refine one_ (i := 7) (N := (some 23)) #[true, true, true, true, true, true, true, true, false, false] rfl rfl (one_of HT_.out (by kernel_rfl)) (by decide) (fun K hK => ?_)
  refine goes_ Try.func45 (by kernel_rfl) rfl #[.pointer (some ⟨mb, 0, none⟩), .int .u64 (most : Int)] (by rfl) rfl rfl (by (try simp only [List.map_toArray, List.map_cons, List.map_nil]); first | done | rfl) ?_
  refine (HD.out _ HM.out).mono ?_
  rintro e w4_7 ⟨rfl, hm_, hg_⟩
  refine ⟨_, rfl, ?_⟩
  have HR := Aside0.mk (HR.out.kept hg_ (by have := Hne.out.1; simpa using this) (by have := Hne.out.2; simpa using this))
  have HM := Aside0.mk hm_
  clear hm_
  have hb_ : Gr2 g mb w4_3 w4_7 := Gr2.of2 hg_
  have HB := Aside0.mk (Gr2.trans HB.out hb_)
  refine hK.out _ _ hb_ (fun hHeld => ?_)
  clear hK K
  refine wpAnyLast_str (S' := fun x_ => Gr2 g mb w4_7 x_) (fun x_ hx_ => Gr2.trans hHeld hx_) (Gr2.refl _) ?_
  clear hHeld
  (try clear hb)
  clear hb_
  have HS := Aside0.mk (show Gr2 g mb w4_7 w4_7 from Gr2.refl w4_7)
  refine norm_ (a' := ?_) ?_ ?_
  rotate_left
  · show Act.put _ (some 23) _ = _
    simp only [Act.put, List.setIfInBounds_toArray, List.set_cons_zero, List.set_cons_succ, i64_w, i32_w]
    rfl
  refine pure_ (i := 8) (N := (some 24)) (v := ?_) (a' := ?_) #[true, true, true, true, true, true, true, true, true, false] rfl rfl (any_of HT_.out (by kernel_rfl)) (fun _ _ _ h => h) (Or.inl ⟨by rfl, ?_⟩) ?_ ?_
  rotate_left
  · intro w_
    go_simp
    try with_reducible rfl
  rotate_left
  · simp only [Act.put, List.setIfInBounds_toArray, List.set_cons_zero, List.set_cons_succ, i64_w, i32_w]
    rfl
  refine pure_ (i := 9) (N := (some 6)) (v := ?_) (a' := ?_) #[true, true, true, true, true, true, true, true, true, true] rfl rfl (any_of HT_.out (by kernel_rfl)) (fun _ _ _ h => h) (Or.inl ⟨by rfl, ?_⟩) ?_ ?_
  rotate_left
  · intro w_
    go_simp
    try with_reducible rfl
  rotate_left
  · simp only [Act.put, List.setIfInBounds_toArray, List.set_cons_zero, List.set_cons_succ, i64_w, i32_w]
    rfl
  refine done_ (done_of HT_.out (by kernel_rfl)) ?_
  go_wp2_with fail
  go_ret
  exact ⟨by simp, HR.out, HM.out, HB.out⟩
set_option maxHeartbeats 1000000 in
theorem same_c1 (g b mb : Nat) (S : ByteArray) (st st2 : Option (List UInt8)) (kind : Int) (most : Nat) (w : World) (hR : RS w g b st) (hM : MR w mb S st) (hne : g ≠ mb ∧ b ≠ mb) (hk0 : (kind == 0) = false) (hk1 : (kind == 1) = true) (m : Int)  (HC : Aside0 (∀ W, RS W g b st → Calls Try.prog 25 #[.pointer (some ⟨g, 0, none⟩)] W fun e w' => e = .returned (.int .i64 m) ∧ RS w' g b st2 ∧ W.grownBy w' (some g))) (HD : Aside0 (∀ W, MR W mb S st → Calls Try.prog 46 #[.pointer (some ⟨mb, 0, none⟩)] W fun e w' => e = .returned (.int .i64 m) ∧ MR w' mb S st2 ∧ W.grownBy w' (some mb))) :
    Calls Try.prog 37 #[.pointer (some ⟨g, 0, none⟩), .pointer (some ⟨mb, 0, none⟩), .agg #[.int .i64 kind, .int .u64 (most : Int)]] w fun e w' => e = .returned (.bool true) ∧ RS w' g b st2 ∧ MR w' mb S st2 ∧ Gr2 g mb w w' := by
  have hlt := hR.lt
  have hlt2 := hM.lt
  obtain ⟨o, ho⟩ : ∃ o, o = (Obj.cells #[.int .i64 kind, .int .u64 (most : Int)] 54) := ⟨_, rfl⟩
  obtain ⟨W, hW⟩ : ∃ W, W = w.alloc o := ⟨_, rfl⟩
  have HB : Aside0 (Gr2 g mb w W) := ⟨by rw [hW]; exact Gr2.of0 (World.grownBy_alloc w o none)⟩
  have HR : Aside0 (RS W g b st) := ⟨by rw [hW]; exact hR.kept (World.grownBy_alloc w o none) (by simp) (by simp)⟩
  have HM : Aside0 (MR W mb S st) := ⟨by rw [hW]; exact hM.kept (World.grownBy_alloc w o none) (by simp)⟩
  have HX : Aside0 (Ax W w.heap.size kind most) := ⟨by rw [hW, ho]; exact Ax.new w kind most⟩
  obtain ⟨j, hj⟩ : ∃ j, j = w.heap.size := ⟨_, rfl⟩
  have Hj : Aside0 (j ≠ g ∧ j ≠ mb) := ⟨⟨by omega, by omega⟩⟩
  have Hne := Aside0.mk hne
  rw [← hj] at HX
  rw [ho] at hW
  have HW := Aside0.mk hW
  have HJ := Aside0.mk hj
  clear hW ho hj hlt hlt2 hR hM hne
  go_enter Try.func37, Try.ntmps37
  go_wp2_with fail
  try rw [← HW.out]
  try rw [← HJ.out]
  clear HW HJ
  (refine (HC.out _ HR.out).mono ?_; rintro e w2 ⟨rfl, hr_, hg_⟩)
  have HM2 := Aside0.mk (HM.out.kept hg_ (by have := Hne.out.1; simpa using Ne.symm this))
  have HR2 := Aside0.mk hr_
  have HB2 := Aside0.mk (Gr2.trans HB.out (Gr2.of1 hg_))
  clear hr_ hg_ HM HR HB HX
  go_wp2_with fail
  (refine (HD.out _ HM2.out).mono ?_; rintro e w3 ⟨rfl, hm_, hg_⟩)
  have HR3 := Aside0.mk (HR2.out.kept hg_ (by have := Hne.out.1; simpa using this) (by have := Hne.out.2; simpa using this))
  have HM3 := Aside0.mk hm_
  have HB3 := Aside0.mk (Gr2.trans HB2.out (Gr2.of2 hg_))
  clear hm_ hg_ HM2 HR2 HB2
  go_wp2_with fail
  go_ret
  exact ⟨by simp, HR3.out, HM3.out, HB3.out⟩
set_option maxHeartbeats 1000000 in
theorem same_c2 (g b mb : Nat) (S : ByteArray) (st st2 : Option (List UInt8)) (kind : Int) (most : Nat) (w : World) (hR : RS w g b st) (hM : MR w mb S st) (hne : g ≠ mb ∧ b ≠ mb) (hk0 : (kind == 0) = false) (hk1 : (kind == 1) = false) (hk2 : (kind == 2) = true) (m : ByteArray)  (HC : Aside0 (∀ W, RS W g b st → Calls Try.prog 35 #[.pointer (some ⟨g, 0, none⟩), .int .i64 ((most : Int) % 1000000)] W fun e w' => e = .returned (.string m) ∧ RS w' g b st2 ∧ W.grownBy w' (some g))) (HD : Aside0 (∀ W, MR W mb S st → Calls Try.prog 47 #[.pointer (some ⟨mb, 0, none⟩), .int .i64 ((most : Int) % 1000000)] W fun e w' => e = .returned (.string m) ∧ MR w' mb S st2 ∧ W.grownBy w' (some mb))) :
    Calls Try.prog 37 #[.pointer (some ⟨g, 0, none⟩), .pointer (some ⟨mb, 0, none⟩), .agg #[.int .i64 kind, .int .u64 (most : Int)]] w fun e w' => e = .returned (.bool true) ∧ RS w' g b st2 ∧ MR w' mb S st2 ∧ Gr2 g mb w w' := by
  have hlt := hR.lt
  have hlt2 := hM.lt
  obtain ⟨o, ho⟩ : ∃ o, o = (Obj.cells #[.int .i64 kind, .int .u64 (most : Int)] 54) := ⟨_, rfl⟩
  obtain ⟨W, hW⟩ : ∃ W, W = w.alloc o := ⟨_, rfl⟩
  have HB : Aside0 (Gr2 g mb w W) := ⟨by rw [hW]; exact Gr2.of0 (World.grownBy_alloc w o none)⟩
  have HR : Aside0 (RS W g b st) := ⟨by rw [hW]; exact hR.kept (World.grownBy_alloc w o none) (by simp) (by simp)⟩
  have HM : Aside0 (MR W mb S st) := ⟨by rw [hW]; exact hM.kept (World.grownBy_alloc w o none) (by simp)⟩
  have HX : Aside0 (Ax W w.heap.size kind most) := ⟨by rw [hW, ho]; exact Ax.new w kind most⟩
  obtain ⟨j, hj⟩ : ∃ j, j = w.heap.size := ⟨_, rfl⟩
  have Hj : Aside0 (j ≠ g ∧ j ≠ mb) := ⟨⟨by omega, by omega⟩⟩
  have Hne := Aside0.mk hne
  rw [← hj] at HX
  rw [ho] at hW
  have HW := Aside0.mk hW
  have HJ := Aside0.mk hj
  clear hW ho hj hlt hlt2 hR hM hne
  go_enter Try.func37, Try.ntmps37
  go_wp2_with fail
  try rw [← HW.out]
  try rw [← HJ.out]
  clear HW HJ
  (refine (HC.out _ HR.out).mono ?_; rintro e w2 ⟨rfl, hr_, hg_⟩)
  have HM2 := Aside0.mk (HM.out.kept hg_ (by have := Hne.out.1; simpa using Ne.symm this))
  have HR2 := Aside0.mk hr_
  have HB2 := Aside0.mk (Gr2.trans HB.out (Gr2.of1 hg_))
  clear hr_ hg_ HM HR HB HX
  go_wp2_with fail
  (refine (HD.out _ HM2.out).mono ?_; rintro e w3 ⟨rfl, hm_, hg_⟩)
  have HR3 := Aside0.mk (HR2.out.kept hg_ (by have := Hne.out.1; simpa using this) (by have := Hne.out.2; simpa using this))
  have HM3 := Aside0.mk hm_
  have HB3 := Aside0.mk (Gr2.trans HB2.out (Gr2.of2 hg_))
  clear hm_ hg_ HM2 HR2 HB2
  go_wp2_with fail
  go_ret
  exact ⟨by simp, HR3.out, HM3.out, HB3.out⟩
set_option maxHeartbeats 1000000 in
theorem same_c3 (g b mb : Nat) (S : ByteArray) (st st2 : Option (List UInt8)) (kind : Int) (most : Nat) (w : World) (hR : RS w g b st) (hM : MR w mb S st) (hne : g ≠ mb ∧ b ≠ mb) (hk0 : (kind == 0) = false) (hk1 : (kind == 1) = false) (hk2 : (kind == 2) = false) (hk3 : (kind == 3) = true) (m : ByteArray)  (HC : Aside0 (∀ W, RS W g b st → Calls Try.prog 35 #[.pointer (some ⟨g, 0, none⟩), .int .i64 (-((most : Int) % 1000000))] W fun e w' => e = .returned (.string m) ∧ RS w' g b st2 ∧ W.grownBy w' (some g))) (HD : Aside0 (∀ W, MR W mb S st → Calls Try.prog 47 #[.pointer (some ⟨mb, 0, none⟩), .int .i64 0] W fun e w' => e = .returned (.string m) ∧ MR w' mb S st2 ∧ W.grownBy w' (some mb))) :
    Calls Try.prog 37 #[.pointer (some ⟨g, 0, none⟩), .pointer (some ⟨mb, 0, none⟩), .agg #[.int .i64 kind, .int .u64 (most : Int)]] w fun e w' => e = .returned (.bool true) ∧ RS w' g b st2 ∧ MR w' mb S st2 ∧ Gr2 g mb w w' := by
  have hlt := hR.lt
  have hlt2 := hM.lt
  obtain ⟨o, ho⟩ : ∃ o, o = (Obj.cells #[.int .i64 kind, .int .u64 (most : Int)] 54) := ⟨_, rfl⟩
  obtain ⟨W, hW⟩ : ∃ W, W = w.alloc o := ⟨_, rfl⟩
  have HB : Aside0 (Gr2 g mb w W) := ⟨by rw [hW]; exact Gr2.of0 (World.grownBy_alloc w o none)⟩
  have HR : Aside0 (RS W g b st) := ⟨by rw [hW]; exact hR.kept (World.grownBy_alloc w o none) (by simp) (by simp)⟩
  have HM : Aside0 (MR W mb S st) := ⟨by rw [hW]; exact hM.kept (World.grownBy_alloc w o none) (by simp)⟩
  have HX : Aside0 (Ax W w.heap.size kind most) := ⟨by rw [hW, ho]; exact Ax.new w kind most⟩
  obtain ⟨j, hj⟩ : ∃ j, j = w.heap.size := ⟨_, rfl⟩
  have Hj : Aside0 (j ≠ g ∧ j ≠ mb) := ⟨⟨by omega, by omega⟩⟩
  have Hne := Aside0.mk hne
  rw [← hj] at HX
  rw [ho] at hW
  have HW := Aside0.mk hW
  have HJ := Aside0.mk hj
  clear hW ho hj hlt hlt2 hR hM hne
  go_enter Try.func37, Try.ntmps37
  go_wp2_with fail
  try rw [← HW.out]
  try rw [← HJ.out]
  clear HW HJ
  (refine (HC.out _ HR.out).mono ?_; rintro e w2 ⟨rfl, hr_, hg_⟩)
  have HM2 := Aside0.mk (HM.out.kept hg_ (by have := Hne.out.1; simpa using Ne.symm this))
  have HR2 := Aside0.mk hr_
  have HB2 := Aside0.mk (Gr2.trans HB.out (Gr2.of1 hg_))
  clear hr_ hg_ HM HR HB HX
  go_wp2_with fail
  (refine (HD.out _ HM2.out).mono ?_; rintro e w3 ⟨rfl, hm_, hg_⟩)
  have HR3 := Aside0.mk (HR2.out.kept hg_ (by have := Hne.out.1; simpa using this) (by have := Hne.out.2; simpa using this))
  have HM3 := Aside0.mk hm_
  have HB3 := Aside0.mk (Gr2.trans HB2.out (Gr2.of2 hg_))
  clear hm_ hg_ HM2 HR2 HB2
  go_wp2_with fail
  go_ret
  exact ⟨by simp, HR3.out, HM3.out, HB3.out⟩
set_option maxHeartbeats 1000000 in
theorem same_c4 (g b mb : Nat) (S : ByteArray) (st st2 : Option (List UInt8)) (kind : Int) (most : Nat) (w : World) (hR : RS w g b st) (hM : MR w mb S st) (hne : g ≠ mb ∧ b ≠ mb) (hk0 : (kind == 0) = false) (hk1 : (kind == 1) = false) (hk2 : (kind == 2) = false) (hk3 : (kind == 3) = false) (m : Nat) (z : Bool) (hz : ((m : Int) == 1) = z)  (HC : Aside0 (∀ W, RS W g b st → Calls Try.prog 36 #[.pointer (some ⟨g, 0, none⟩)] W fun e w' => e = .returned (.bool z) ∧ RS w' g b st2 ∧ W.grownBy w' (some g))) (HD : Aside0 (∀ W, MR W mb S st → Calls Try.prog 45 #[.pointer (some ⟨mb, 0, none⟩), .int .u64 1] W fun e w' => e = .returned (.int .u64 (m : Int)) ∧ MR w' mb S st2 ∧ W.grownBy w' (some mb))) :
    Calls Try.prog 37 #[.pointer (some ⟨g, 0, none⟩), .pointer (some ⟨mb, 0, none⟩), .agg #[.int .i64 kind, .int .u64 (most : Int)]] w fun e w' => e = .returned (.bool true) ∧ RS w' g b st2 ∧ MR w' mb S st2 ∧ Gr2 g mb w w' := by
  have hlt := hR.lt
  have hlt2 := hM.lt
  obtain ⟨o, ho⟩ : ∃ o, o = (Obj.cells #[.int .i64 kind, .int .u64 (most : Int)] 54) := ⟨_, rfl⟩
  obtain ⟨W, hW⟩ : ∃ W, W = w.alloc o := ⟨_, rfl⟩
  have HB : Aside0 (Gr2 g mb w W) := ⟨by rw [hW]; exact Gr2.of0 (World.grownBy_alloc w o none)⟩
  have HR : Aside0 (RS W g b st) := ⟨by rw [hW]; exact hR.kept (World.grownBy_alloc w o none) (by simp) (by simp)⟩
  have HM : Aside0 (MR W mb S st) := ⟨by rw [hW]; exact hM.kept (World.grownBy_alloc w o none) (by simp)⟩
  have HX : Aside0 (Ax W w.heap.size kind most) := ⟨by rw [hW, ho]; exact Ax.new w kind most⟩
  obtain ⟨j, hj⟩ : ∃ j, j = w.heap.size := ⟨_, rfl⟩
  have Hj : Aside0 (j ≠ g ∧ j ≠ mb) := ⟨⟨by omega, by omega⟩⟩
  have Hne := Aside0.mk hne
  rw [← hj] at HX
  rw [ho] at hW
  have HW := Aside0.mk hW
  have HJ := Aside0.mk hj
  clear hW ho hj hlt hlt2 hR hM hne
  go_enter Try.func37, Try.ntmps37
  go_wp2_with fail
  try rw [← HW.out]
  try rw [← HJ.out]
  clear HW HJ
  (refine (HC.out _ HR.out).mono ?_; rintro e w2 ⟨rfl, hr_, hg_⟩)
  have HM2 := Aside0.mk (HM.out.kept hg_ (by have := Hne.out.1; simpa using Ne.symm this))
  have HR2 := Aside0.mk hr_
  have HB2 := Aside0.mk (Gr2.trans HB.out (Gr2.of1 hg_))
  clear hr_ hg_ HM HR HB HX
  go_wp2_with fail
  (refine (HD.out _ HM2.out).mono ?_; rintro e w3 ⟨rfl, hm_, hg_⟩)
  have HR3 := Aside0.mk (HR2.out.kept hg_ (by have := Hne.out.1; simpa using this) (by have := Hne.out.2; simpa using this))
  have HM3 := Aside0.mk hm_
  have HB3 := Aside0.mk (Gr2.trans HB2.out (Gr2.of2 hg_))
  clear hm_ hg_ HM2 HR2 HB2
  go_wp2_with fail
  go_ret
  exact ⟨by simp, HR3.out, HM3.out, HB3.out⟩
end Go.Proofs.Ytahjpeihekphcaa.N
