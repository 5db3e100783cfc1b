/- Items that are put and read: what back computes. -/
import Derived.Test.YtahjpeihekphcaaN13
set_option linter.unusedVariables false
set_option linter.unusedSimpArgs false
namespace Go.Proofs.Ytahjpeihekphcaa.N
open Go.RowKit Go.Proofs.YtahjpeihekphcaaW.PrintWords Go.Proofs.YtahjpeihekphcaaW.PrintLast Go.Proofs.Ytahjpeihekphcaa.Bt Go.Proofs.Ytahjpeihekphcaa.B Go.Proofs.Ytahjpeihekphcaa.Vi Go.Proofs.Ytahjpeihekphcaa.Reg

/-- A box with an item. -/
def Bx (w : World) (j : Nat) (kind : Int) (n : Nat) (s : ByteArray) : Prop := w.heap[j]? = some (.cells #[.int .i64 kind, .int .u64 (n : Int), .string s] 60 (0, 0))
theorem Bx.cell1 {w : World} {j n : Nat} {kind : Int} {s : ByteArray} (h : Bx w j kind n s) : w.cell? ⟨j, 1, none⟩ = some (.int .u64 (n : Int)) := by rw [blk_cell h]; rfl
theorem Bx.cell2 {w : World} {j n : Nat} {kind : Int} {s : ByteArray} (h : Bx w j kind n s) : w.cell? ⟨j, 2, none⟩ = some (.string s) := by rw [blk_cell h]; rfl
theorem Bx.kept {w w' : World} {g j n : Nat} {kind : Int} {s : ByteArray} (h : Bx w j kind n s) (hg : w.grownBy w' (some g)) (hne : j ≠ g) : Bx w' j kind n s := blk_grown h hg (by simpa using hne)
theorem Bx.new (w : World) (kind : Int) (n : Nat) (s : ByteArray) : Bx (w.alloc (.cells #[.int .i64 kind, .int .u64 (n : Int), .string s] 60)) w.heap.size kind n s := Go.heap_alloc_new w _
def T_magpielaw01_back_3 : Bool × List (List Nat × List Nat) := (true, [([], []), ([], []), ([1], [1]), ([0, 2], [0, 2]), ([], []), ([4], [4]), ([3, 5], [3, 5]), ([6, 3, 0, 1, 2, 3, 4, 5, 6], [6])])
def B_magpielaw01_back_3 : List Nat := [0, 0, 2, 7, 0, 16, 63, 127]
theorem tab_magpielaw01_back_3 : rtab .any (opsOf Try.f40 3) = T_magpielaw01_back_3 := by kernel_rfl
theorem bits_magpielaw01_back_3 : waitsOk T_magpielaw01_back_3.2 B_magpielaw01_back_3 = true := by kernel_rfl
def T_magpielaw01_back_5 : Bool × List (List Nat × List Nat) := (true, [([], []), ([0], [0]), ([], []), ([2], [2]), ([3], [3]), ([1, 4], [1, 4]), ([5, 1, 0, 1, 2, 3, 4, 5], [5])])
def B_magpielaw01_back_5 : List Nat := [0, 1, 0, 4, 12, 31, 63]
theorem tab_magpielaw01_back_5 : rtab .any (opsOf Try.f40 5) = T_magpielaw01_back_5 := by kernel_rfl
theorem bits_magpielaw01_back_5 : waitsOk T_magpielaw01_back_5.2 B_magpielaw01_back_5 = true := by kernel_rfl
def T_magpielaw01_back_7 : Bool × List (List Nat × List Nat) := (true, [([], []), ([], []), ([1], [1]), ([2], [2]), ([0, 3], [0, 3]), ([], []), ([5], [5]), ([4, 6], [4, 6]), ([7, 4, 0, 1, 2, 3, 4, 5, 6, 7], [7])])
def B_magpielaw01_back_7 : List Nat := [0, 0, 2, 6, 15, 0, 32, 127, 255]
theorem tab_magpielaw01_back_7 : rtab .any (opsOf Try.f40 7) = T_magpielaw01_back_7 := by kernel_rfl
theorem bits_magpielaw01_back_7 : waitsOk T_magpielaw01_back_7.2 B_magpielaw01_back_7 = true := by kernel_rfl
def T_magpielaw01_back_8 : Bool × List (List Nat × List Nat) := (true, [([], []), ([0], [0]), ([], []), ([2], [2]), ([3], [3]), ([4], [4]), ([1, 5], [1, 5]), ([6, 1, 0, 1, 2, 3, 4, 5, 6], [6])])
def B_magpielaw01_back_8 : List Nat := [0, 1, 0, 4, 12, 28, 63, 127]
theorem tab_magpielaw01_back_8 : rtab .any (opsOf Try.f40 8) = T_magpielaw01_back_8 := by kernel_rfl
theorem bits_magpielaw01_back_8 : waitsOk T_magpielaw01_back_8.2 B_magpielaw01_back_8 = true := by kernel_rfl
set_option maxHeartbeats 1000000 in
theorem back_c0 (g b : Nat) (st st2 : Option (List UInt8)) (kind : Int) (n : Nat) (s : ByteArray) (w : World) (hR : RS w g b st) (hk0 : (kind == 0) = true) (m : Nat) (HC : Aside0 (∀ W, RS W g b st → Calls Try.prog 24 #[.pointer (some ⟨g, 0, none⟩), .int .u64 (n : Int)] W fun e w' => e = .returned (.int .u64 (m : Int)) ∧ RS w' g b st2 ∧ W.grownBy w' (some g))) :
    Calls Try.prog 40 #[.pointer (some ⟨g, 0, none⟩), .agg #[.int .i64 kind, .int .u64 (n : Int), .string s]] w fun e w' => e = .returned (.bool ((m : Int) == (n : Int))) ∧ RS w' g b st2 ∧ w.grownBy w' (some g) := by
  have hlt := hR.lt
  obtain ⟨o, ho⟩ : ∃ o, o = (Obj.cells #[.int .i64 kind, .int .u64 (n : Int), .string s] 60) := ⟨_, rfl⟩
  obtain ⟨W, hW⟩ : ∃ W, W = w.alloc o := ⟨_, rfl⟩
  have HB : Aside0 (w.grownBy W (some g)) := ⟨by rw [hW]; exact World.grownBy_alloc w o (some g)⟩
  have HR : Aside0 (RS W g b st) := ⟨by rw [hW]; exact hR.kept (World.grownBy_alloc w o none) (by simp) (by simp)⟩
  have HX : Aside0 (Bx W w.heap.size kind n s) := ⟨by rw [hW, ho]; exact Bx.new w kind n s⟩
  obtain ⟨j, hj⟩ : ∃ j, j = w.heap.size := ⟨_, rfl⟩
  have Hne : Aside0 (j ≠ g) := ⟨by omega⟩
  rw [← hj] at HX
  rw [ho] at hW
  have HW := Aside0.mk hW
  have HJ := Aside0.mk hj
  clear hW ho hj hlt hR
  go_enter Try.func40, Try.ntmps40
  go_wp2_with fail
  try rw [← HW.out]
  try rw [← HJ.out]
  clear HW HJ
  refine start_ (n := 8) (S := fun x_ => World.grownBy W x_ (some g)) (ds := []) #[false, false, false, false, false, false, false, false] (by kernel_rfl) rfl rfl (grown_drewN (grown_refl _ (some g)) 1) (fun hHeld => ?_)
  refine with_tabW tab_magpielaw01_back_3 bits_magpielaw01_back_3 (fun HT_ HW_ => ?_)
  have HB := Aside0.mk (grown_drewN HB.out 1)
  change Aside0 (World.grownBy _ (World.drew W) _) at HB
  change World.grownBy _ (World.drew W) _ at hHeld
  have hSz : (World.drew W).heap.size = W.heap.size := rfl
  have HR := Aside0.mk (show RS (World.drew W) g b st from HR.out)
  have HX := Aside0.mk (show Bx (World.drew W) j kind n s from HX.out)
  refine wpAnyLast_str (S' := fun x_ => World.grownBy (World.drew W) x_ (some g)) (fun x_ hx_ => World.grownBy.trans hHeld hx_) (grown_refl _ (some g)) ?_
  clear hHeld hSz
  generalize World.drew W = Wd at *
  have HS := Aside0.mk (grown_refl Wd (some g))
  refine pure_ (i := 0) (N := (some 9)) (v := ?_) (a' := ?_) #[true, false, false, false, false, false, false, false] rfl rfl (any_of HT_.out (by kernel_rfl)) (fun _ _ _ h => h) (Or.inl ⟨by rfl, ?_⟩) ?_ ?_
  rotate_left
  · intro w_
    go_simp
    try with_reducible rfl
  rotate_left
  · simp only [Act.put, List.setIfInBounds_toArray, List.set_cons_zero, List.set_cons_succ, i64_w, i32_w]
    rfl
  refine pure_ (i := 1) (N := (some 10)) (v := ?_) (a' := ?_) #[true, true, false, false, false, false, false, false] rfl rfl (any_of HT_.out (by kernel_rfl)) (fun _ _ _ h => h) (Or.inl ⟨by rfl, ?_⟩) ?_ ?_
  rotate_left
  · intro w_
    go_simp
    try with_reducible rfl
  rotate_left
  · simp only [Act.put, List.setIfInBounds_toArray, List.set_cons_zero, List.set_cons_succ, i64_w, i32_w]
    rfl
  refine pure_ (i := 4) (N := (some 13)) (v := ?_) (a' := ?_) #[true, true, false, false, true, false, false, false] rfl rfl (any_of HT_.out (by kernel_rfl)) (fun _ _ _ h => h) (Or.inl ⟨by rfl, ?_⟩) ?_ ?_
  rotate_left
  · intro w_
    go_simp
    try with_reducible rfl
  rotate_left
  · simp only [Act.put, List.setIfInBounds_toArray, List.set_cons_zero, List.set_cons_succ, i64_w, i32_w]
    rfl
  refine take_ (i := 2) (N := (some 11)) (v := ?_) (a' := ?_) #[true, true, true, false, true, false, false, false] rfl rfl (take_ofW HT_.out HW_.out (by kernel_rfl)) (fun _ _ _ h => h) (Or.inl ⟨by rfl, ?_⟩) (grown_refl _ (some g)) ?_ ?_
  rotate_left
  · intro Wx hWx
    have hc := (HX.out.kept hWx Hne.out).cell1
    go_simp
    try with_reducible rfl
  rotate_left
  · simp only [Act.put, List.setIfInBounds_toArray, List.set_cons_zero, List.set_cons_succ, i64_w, i32_w]
    rfl
  refine take_ (i := 5) (N := (some 14)) (v := ?_) (a' := ?_) #[true, true, true, false, true, true, false, false] rfl rfl (take_ofW HT_.out HW_.out (by kernel_rfl)) (fun _ _ _ h => h) (Or.inl ⟨by rfl, ?_⟩) (grown_refl _ (some g)) ?_ ?_
  rotate_left
  · intro Wx hWx
    have hc := (HX.out.kept hWx Hne.out).cell1
    go_simp
    try with_reducible rfl
  rotate_left
  · simp only [Act.put, List.setIfInBounds_toArray, List.set_cons_zero, List.set_cons_succ, i64_w, i32_w]
    rfl
  refine one_ (i := 3) (N := (some 12)) #[true, true, true, true, true, true, false, false] rfl rfl (one_of HT_.out (by kernel_rfl)) (by decide) (fun K hK => ?_)
  refine goes_ Try.func24 (by kernel_rfl) rfl #[.pointer (some ⟨g, 0, none⟩), .int .u64 (n : Int)] (by rfl) rfl rfl (by (try simp only [List.map_toArray, List.map_cons, List.map_nil]); first | done | rfl) ?_
  refine (HC.out _ HR.out).mono ?_
  rintro e w3_3 ⟨rfl, hr_, hg_⟩
  refine ⟨_, rfl, ?_⟩
  have HX := Aside0.mk (HX.out.kept hg_ Hne.out)
  have HR := Aside0.mk hr_
  clear hr_ HC
  have hb_ : World.grownBy Wd w3_3 (some g) := hg_
  have HB := Aside0.mk (World.grownBy.trans HB.out hb_)
  refine hK.out _ _ hb_ (fun hHeld => ?_)
  clear hK K
  refine wpAnyLast_str (S' := fun x_ => World.grownBy w3_3 x_ (some g)) (fun x_ hx_ => World.grownBy.trans hHeld hx_) (grown_refl _ (some g)) ?_
  clear hHeld
  (try clear hb)
  clear hb_
  have HS := Aside0.mk (grown_refl w3_3 (some g))
  refine norm_ (a' := ?_) ?_ ?_
  rotate_left
  · show Act.put _ (some 12) _ = _
    simp only [Act.put, List.setIfInBounds_toArray, List.set_cons_zero, List.set_cons_succ, i64_w, i32_w]
    rfl
  refine pure_ (i := 6) (N := (some 15)) (v := ?_) (a' := ?_) #[true, true, true, true, true, true, true, false] rfl rfl (any_of HT_.out (by kernel_rfl)) (fun _ _ _ h => h) (Or.inl ⟨by rfl, ?_⟩) ?_ ?_
  rotate_left
  · intro w_
    go_simp
    try with_reducible rfl
  rotate_left
  · simp only [Act.put, List.setIfInBounds_toArray, List.set_cons_zero, List.set_cons_succ, i64_w, i32_w]
    rfl
  refine pure_ (i := 7) (N := (some 4)) (v := ?_) (a' := ?_) #[true, true, true, true, true, true, true, true] rfl rfl (any_of HT_.out (by kernel_rfl)) (fun _ _ _ h => h) (Or.inl ⟨by rfl, ?_⟩) ?_ ?_
  rotate_left
  · intro w_
    go_simp
    try with_reducible rfl
  rotate_left
  · simp only [Act.put, List.setIfInBounds_toArray, List.set_cons_zero, List.set_cons_succ, i64_w, i32_w]
    rfl
  refine done_ (done_of HT_.out (by kernel_rfl)) ?_
  go_wp2_with fail
  go_ret
  exact ⟨by first | rfl | skip, HR.out, HB.out⟩
set_option maxHeartbeats 1000000 in
theorem back_c1 (g b : Nat) (st st2 : Option (List UInt8)) (kind : Int) (n : Nat) (s : ByteArray) (w : World) (hR : RS w g b st) (hk0 : (kind == 0) = false) (hk1 : (kind == 1) = true) (m : Int) (HC : Aside0 (∀ W, RS W g b st → Calls Try.prog 25 #[.pointer (some ⟨g, 0, none⟩)] W fun e w' => e = .returned (.int .i64 m) ∧ RS w' g b st2 ∧ W.grownBy w' (some g))) :
    Calls Try.prog 40 #[.pointer (some ⟨g, 0, none⟩), .agg #[.int .i64 kind, .int .u64 (n : Int), .string s]] w fun e w' => e = .returned (.bool (m == wrap64 (n : Int))) ∧ RS w' g b st2 ∧ w.grownBy w' (some g) := by
  have hlt := hR.lt
  obtain ⟨o, ho⟩ : ∃ o, o = (Obj.cells #[.int .i64 kind, .int .u64 (n : Int), .string s] 60) := ⟨_, rfl⟩
  obtain ⟨W, hW⟩ : ∃ W, W = w.alloc o := ⟨_, rfl⟩
  have HB : Aside0 (w.grownBy W (some g)) := ⟨by rw [hW]; exact World.grownBy_alloc w o (some g)⟩
  have HR : Aside0 (RS W g b st) := ⟨by rw [hW]; exact hR.kept (World.grownBy_alloc w o none) (by simp) (by simp)⟩
  have HX : Aside0 (Bx W w.heap.size kind n s) := ⟨by rw [hW, ho]; exact Bx.new w kind n s⟩
  obtain ⟨j, hj⟩ : ∃ j, j = w.heap.size := ⟨_, rfl⟩
  have Hne : Aside0 (j ≠ g) := ⟨by omega⟩
  rw [← hj] at HX
  rw [ho] at hW
  have HW := Aside0.mk hW
  have HJ := Aside0.mk hj
  clear hW ho hj hlt hR
  go_enter Try.func40, Try.ntmps40
  go_wp2_with fail
  try rw [← HW.out]
  try rw [← HJ.out]
  clear HW HJ
  refine start_ (n := 7) (S := fun x_ => World.grownBy W x_ (some g)) (ds := []) #[false, false, false, false, false, false, false] (by kernel_rfl) rfl rfl (grown_drewN (grown_refl _ (some g)) 1) (fun hHeld => ?_)
  refine with_tabW tab_magpielaw01_back_5 bits_magpielaw01_back_5 (fun HT_ HW_ => ?_)
  have HB := Aside0.mk (grown_drewN HB.out 1)
  change Aside0 (World.grownBy _ (World.drew W) _) at HB
  change World.grownBy _ (World.drew W) _ at hHeld
  have hSz : (World.drew W).heap.size = W.heap.size := rfl
  have HR := Aside0.mk (show RS (World.drew W) g b st from HR.out)
  have HX := Aside0.mk (show Bx (World.drew W) j kind n s from HX.out)
  refine wpAnyLast_str (S' := fun x_ => World.grownBy (World.drew W) x_ (some g)) (fun x_ hx_ => World.grownBy.trans hHeld hx_) (grown_refl _ (some g)) ?_
  clear hHeld hSz
  generalize World.drew W = Wd at *
  have HS := Aside0.mk (grown_refl Wd (some g))
  refine pure_ (i := 0) (N := (some 18)) (v := ?_) (a' := ?_) #[true, false, false, false, false, false, false] rfl rfl (any_of HT_.out (by kernel_rfl)) (fun _ _ _ h => h) (Or.inl ⟨by rfl, ?_⟩) ?_ ?_
  rotate_left
  · intro w_
    go_simp
    try with_reducible rfl
  rotate_left
  · simp only [Act.put, List.setIfInBounds_toArray, List.set_cons_zero, List.set_cons_succ, i64_w, i32_w]
    rfl
  refine pure_ (i := 2) (N := (some 20)) (v := ?_) (a' := ?_) #[true, false, true, false, false, false, false] rfl rfl (any_of HT_.out (by kernel_rfl)) (fun _ _ _ h => h) (Or.inl ⟨by rfl, ?_⟩) ?_ ?_
  rotate_left
  · intro w_
    go_simp
    try with_reducible rfl
  rotate_left
  · simp only [Act.put, List.setIfInBounds_toArray, List.set_cons_zero, List.set_cons_succ, i64_w, i32_w]
    rfl
  refine take_ (i := 3) (N := (some 21)) (v := ?_) (a' := ?_) #[true, false, true, true, false, false, false] rfl rfl (take_ofW HT_.out HW_.out (by kernel_rfl)) (fun _ _ _ h => h) (Or.inl ⟨by rfl, ?_⟩) (grown_refl _ (some g)) ?_ ?_
  rotate_left
  · intro Wx hWx
    have hc := (HX.out.kept hWx Hne.out).cell1
    go_simp
    try with_reducible rfl
  rotate_left
  · simp only [Act.put, List.setIfInBounds_toArray, List.set_cons_zero, List.set_cons_succ, i64_w, i32_w]
    rfl
  refine pure_ (i := 4) (N := (some 22)) (v := ?_) (a' := ?_) #[true, false, true, true, true, false, false] rfl rfl (any_of HT_.out (by kernel_rfl)) (fun _ _ _ h => h) (Or.inl ⟨by rfl, ?_⟩) ?_ ?_
  rotate_left
  · intro w_
    go_simp
    try with_reducible rfl
  rotate_left
  · simp only [Act.put, List.setIfInBounds_toArray, List.set_cons_zero, List.set_cons_succ, i64_w, i32_w]
    rfl
  refine one_ (i := 1) (N := (some 19)) #[true, true, true, true, true, false, false] rfl rfl (one_of HT_.out (by kernel_rfl)) (by decide) (fun K hK => ?_)
  refine goes_ Try.func25 (by kernel_rfl) rfl #[.pointer (some ⟨g, 0, none⟩)] (by rfl) rfl rfl (by (try simp only [List.map_toArray, List.map_cons, List.map_nil]); first | done | rfl) ?_
  refine (HC.out _ HR.out).mono ?_
  rintro e w5_1 ⟨rfl, hr_, hg_⟩
  refine ⟨_, rfl, ?_⟩
  have HX := Aside0.mk (HX.out.kept hg_ Hne.out)
  have HR := Aside0.mk hr_
  clear hr_ HC
  have hb_ : World.grownBy Wd w5_1 (some g) := hg_
  have HB := Aside0.mk (World.grownBy.trans HB.out hb_)
  refine hK.out _ _ hb_ (fun hHeld => ?_)
  clear hK K
  refine wpAnyLast_str (S' := fun x_ => World.grownBy w5_1 x_ (some g)) (fun x_ hx_ => World.grownBy.trans hHeld hx_) (grown_refl _ (some g)) ?_
  clear hHeld
  (try clear hb)
  clear hb_
  have HS := Aside0.mk (grown_refl w5_1 (some g))
  refine norm_ (a' := ?_) ?_ ?_
  rotate_left
  · show Act.put _ (some 19) _ = _
    simp only [Act.put, List.setIfInBounds_toArray, List.set_cons_zero, List.set_cons_succ, i64_w, i32_w]
    rfl
  refine pure_ (i := 5) (N := (some 23)) (v := ?_) (a' := ?_) #[true, true, true, true, true, true, false] rfl rfl (any_of HT_.out (by kernel_rfl)) (fun _ _ _ h => h) (Or.inl ⟨by rfl, ?_⟩) ?_ ?_
  rotate_left
  · intro w_
    go_simp
    try with_reducible rfl
  rotate_left
  · simp only [Act.put, List.setIfInBounds_toArray, List.set_cons_zero, List.set_cons_succ, i64_w, i32_w]
    rfl
  refine pure_ (i := 6) (N := (some 4)) (v := ?_) (a' := ?_) #[true, true, true, true, true, true, true] rfl rfl (any_of HT_.out (by kernel_rfl)) (fun _ _ _ h => h) (Or.inl ⟨by rfl, ?_⟩) ?_ ?_
  rotate_left
  · intro w_
    go_simp
    try with_reducible rfl
  rotate_left
  · simp only [Act.put, List.setIfInBounds_toArray, List.set_cons_zero, List.set_cons_succ, i64_w, i32_w]
    rfl
  refine done_ (done_of HT_.out (by kernel_rfl)) ?_
  go_wp2_with fail
  go_ret
  exact ⟨by first | rfl | skip, HR.out, HB.out⟩
set_option maxHeartbeats 1000000 in
theorem back_c2 (g b : Nat) (st st2 : Option (List UInt8)) (kind : Int) (n : Nat) (s : ByteArray) (w : World) (hR : RS w g b st) (hk0 : (kind == 0) = false) (hk1 : (kind == 1) = false) (hk2 : (kind == 2) = true) (m : ByteArray) (HC : Aside0 (∀ W, RS W g b st → Calls Try.prog 35 #[.pointer (some ⟨g, 0, none⟩), .int .i64 (s.size : Int)] W fun e w' => e = .returned (.string m) ∧ RS w' g b st2 ∧ W.grownBy w' (some g))) :
    Calls Try.prog 40 #[.pointer (some ⟨g, 0, none⟩), .agg #[.int .i64 kind, .int .u64 (n : Int), .string s]] w fun e w' => e = .returned (.bool (m.toList == s.toList)) ∧ RS w' g b st2 ∧ w.grownBy w' (some g) := by
  have hlt := hR.lt
  obtain ⟨o, ho⟩ : ∃ o, o = (Obj.cells #[.int .i64 kind, .int .u64 (n : Int), .string s] 60) := ⟨_, rfl⟩
  obtain ⟨W, hW⟩ : ∃ W, W = w.alloc o := ⟨_, rfl⟩
  have HB : Aside0 (w.grownBy W (some g)) := ⟨by rw [hW]; exact World.grownBy_alloc w o (some g)⟩
  have HR : Aside0 (RS W g b st) := ⟨by rw [hW]; exact hR.kept (World.grownBy_alloc w o none) (by simp) (by simp)⟩
  have HX : Aside0 (Bx W w.heap.size kind n s) := ⟨by rw [hW, ho]; exact Bx.new w kind n s⟩
  obtain ⟨j, hj⟩ : ∃ j, j = w.heap.size := ⟨_, rfl⟩
  have Hne : Aside0 (j ≠ g) := ⟨by omega⟩
  rw [← hj] at HX
  rw [ho] at hW
  have HW := Aside0.mk hW
  have HJ := Aside0.mk hj
  clear hW ho hj hlt hR
  go_enter Try.func40, Try.ntmps40
  go_wp2_with fail
  try rw [← HW.out]
  try rw [← HJ.out]
  clear HW HJ
  refine start_ (n := 9) (S := fun x_ => World.grownBy W x_ (some g)) (ds := []) #[false, false, false, false, false, false, false, false, false] (by kernel_rfl) rfl rfl (grown_drewN (grown_refl _ (some g)) 1) (fun hHeld => ?_)
  refine with_tabW tab_magpielaw01_back_7 bits_magpielaw01_back_7 (fun HT_ HW_ => ?_)
  have HB := Aside0.mk (grown_drewN HB.out 1)
  change Aside0 (World.grownBy _ (World.drew W) _) at HB
  change World.grownBy _ (World.drew W) _ at hHeld
  have hSz : (World.drew W).heap.size = W.heap.size := rfl
  have HR := Aside0.mk (show RS (World.drew W) g b st from HR.out)
  have HX := Aside0.mk (show Bx (World.drew W) j kind n s from HX.out)
  refine wpAnyLast_str (S' := fun x_ => World.grownBy (World.drew W) x_ (some g)) (fun x_ hx_ => World.grownBy.trans hHeld hx_) (grown_refl _ (some g)) ?_
  clear hHeld hSz
  generalize World.drew W = Wd at *
  have HS := Aside0.mk (grown_refl Wd (some g))
  refine pure_ (i := 0) (N := (some 26)) (v := ?_) (a' := ?_) #[true, false, false, false, false, false, false, false, false] rfl rfl (any_of HT_.out (by kernel_rfl)) (fun _ _ _ h => h) (Or.inl ⟨by rfl, ?_⟩) ?_ ?_
  rotate_left
  · intro w_
    go_simp
    try with_reducible rfl
  rotate_left
  · simp only [Act.put, List.setIfInBounds_toArray, List.set_cons_zero, List.set_cons_succ, i64_w, i32_w]
    rfl
  refine pure_ (i := 1) (N := (some 27)) (v := ?_) (a' := ?_) #[true, true, false, false, false, false, false, false, false] rfl rfl (any_of HT_.out (by kernel_rfl)) (fun _ _ _ h => h) (Or.inl ⟨by rfl, ?_⟩) ?_ ?_
  rotate_left
  · intro w_
    go_simp
    try with_reducible rfl
  rotate_left
  · simp only [Act.put, List.setIfInBounds_toArray, List.set_cons_zero, List.set_cons_succ, i64_w, i32_w]
    rfl
  refine pure_ (i := 5) (N := (some 31)) (v := ?_) (a' := ?_) #[true, true, false, false, false, true, false, false, false] rfl rfl (any_of HT_.out (by kernel_rfl)) (fun _ _ _ h => h) (Or.inl ⟨by rfl, ?_⟩) ?_ ?_
  rotate_left
  · intro w_
    go_simp
    try with_reducible rfl
  rotate_left
  · simp only [Act.put, List.setIfInBounds_toArray, List.set_cons_zero, List.set_cons_succ, i64_w, i32_w]
    rfl
  refine take_ (i := 2) (N := (some 28)) (v := ?_) (a' := ?_) #[true, true, true, false, false, true, false, false, false] rfl rfl (take_ofW HT_.out HW_.out (by kernel_rfl)) (fun _ _ _ h => h) (Or.inl ⟨by rfl, ?_⟩) (grown_refl _ (some g)) ?_ ?_
  rotate_left
  · intro Wx hWx
    have hc := (HX.out.kept hWx Hne.out).cell2
    go_simp
    try with_reducible rfl
  rotate_left
  · simp only [Act.put, List.setIfInBounds_toArray, List.set_cons_zero, List.set_cons_succ, i64_w, i32_w]
    rfl
  refine pure_ (i := 3) (N := (some 29)) (v := ?_) (a' := ?_) #[true, true, true, true, false, true, false, false, false] rfl rfl (any_of HT_.out (by kernel_rfl)) (fun _ _ _ h => h) (Or.inl ⟨by rfl, ?_⟩) ?_ ?_
  rotate_left
  · intro w_
    go_simp
    try with_reducible rfl
  rotate_left
  · simp only [Act.put, List.setIfInBounds_toArray, List.set_cons_zero, List.set_cons_succ, i64_w, i32_w]
    rfl
  refine take_ (i := 6) (N := (some 32)) (v := ?_) (a' := ?_) #[true, true, true, true, false, true, true, false, false] rfl rfl (take_ofW HT_.out HW_.out (by kernel_rfl)) (fun _ _ _ h => h) (Or.inl ⟨by rfl, ?_⟩) (grown_refl _ (some g)) ?_ ?_
  rotate_left
  · intro Wx hWx
    have hc := (HX.out.kept hWx Hne.out).cell2
    go_simp
    try with_reducible rfl
  rotate_left
  · simp only [Act.put, List.setIfInBounds_toArray, List.set_cons_zero, List.set_cons_succ, i64_w, i32_w]
    rfl
  refine one_ (i := 4) (N := (some 30)) #[true, true, true, true, true, true, true, false, false] rfl rfl (one_of HT_.out (by kernel_rfl)) (by decide) (fun K hK => ?_)
  refine goes_ Try.func35 (by kernel_rfl) rfl #[.pointer (some ⟨g, 0, none⟩), .int .i64 (s.size : Int)] (by rfl) rfl rfl (by (try simp only [List.map_toArray, List.map_cons, List.map_nil]); first | done | rfl) ?_
  refine (HC.out _ HR.out).mono ?_
  rintro e w7_4 ⟨rfl, hr_, hg_⟩
  refine ⟨_, rfl, ?_⟩
  have HX := Aside0.mk (HX.out.kept hg_ Hne.out)
  have HR := Aside0.mk hr_
  clear hr_ HC
  have hb_ : World.grownBy Wd w7_4 (some g) := hg_
  have HB := Aside0.mk (World.grownBy.trans HB.out hb_)
  refine hK.out _ _ hb_ (fun hHeld => ?_)
  clear hK K
  refine wpAnyLast_str (S' := fun x_ => World.grownBy w7_4 x_ (some g)) (fun x_ hx_ => World.grownBy.trans hHeld hx_) (grown_refl _ (some g)) ?_
  clear hHeld
  (try clear hb)
  clear hb_
  have HS := Aside0.mk (grown_refl w7_4 (some g))
  refine norm_ (a' := ?_) ?_ ?_
  rotate_left
  · show Act.put _ (some 30) _ = _
    simp only [Act.put, List.setIfInBounds_toArray, List.set_cons_zero, List.set_cons_succ, i64_w, i32_w]
    rfl
  refine pure_ (i := 7) (N := (some 33)) (v := ?_) (a' := ?_) #[true, true, true, true, true, true, true, true, false] rfl rfl (any_of HT_.out (by kernel_rfl)) (fun _ _ _ h => h) (Or.inl ⟨by rfl, ?_⟩) ?_ ?_
  rotate_left
  · intro w_
    go_simp
    try with_reducible rfl
  rotate_left
  · simp only [Act.put, List.setIfInBounds_toArray, List.set_cons_zero, List.set_cons_succ, i64_w, i32_w]
    rfl
  refine pure_ (i := 8) (N := (some 4)) (v := ?_) (a' := ?_) #[true, true, true, true, true, true, true, true, true] rfl rfl (any_of HT_.out (by kernel_rfl)) (fun _ _ _ h => h) (Or.inl ⟨by rfl, ?_⟩) ?_ ?_
  rotate_left
  · intro w_
    go_simp
    try with_reducible rfl
  rotate_left
  · simp only [Act.put, List.setIfInBounds_toArray, List.set_cons_zero, List.set_cons_succ, i64_w, i32_w]
    rfl
  refine done_ (done_of HT_.out (by kernel_rfl)) ?_
  go_wp2_with fail
  go_ret
  exact ⟨by first | rfl | skip, HR.out, HB.out⟩
set_option maxHeartbeats 1000000 in
theorem back_c3 (g b : Nat) (st st2 : Option (List UInt8)) (kind : Int) (n : Nat) (s : ByteArray) (w : World) (hR : RS w g b st) (hk0 : (kind == 0) = false) (hk1 : (kind == 1) = false) (hk2 : (kind == 2) = false) (m : Bool) (HC : Aside0 (∀ W, RS W g b st → Calls Try.prog 36 #[.pointer (some ⟨g, 0, none⟩)] W fun e w' => e = .returned (.bool m) ∧ RS w' g b st2 ∧ W.grownBy w' (some g))) :
    Calls Try.prog 40 #[.pointer (some ⟨g, 0, none⟩), .agg #[.int .i64 kind, .int .u64 (n : Int), .string s]] w fun e w' => e = .returned (.bool (m == ((n : Int) % 2 == 1))) ∧ RS w' g b st2 ∧ w.grownBy w' (some g) := by
  have hlt := hR.lt
  obtain ⟨o, ho⟩ : ∃ o, o = (Obj.cells #[.int .i64 kind, .int .u64 (n : Int), .string s] 60) := ⟨_, rfl⟩
  obtain ⟨W, hW⟩ : ∃ W, W = w.alloc o := ⟨_, rfl⟩
  have HB : Aside0 (w.grownBy W (some g)) := ⟨by rw [hW]; exact World.grownBy_alloc w o (some g)⟩
  have HR : Aside0 (RS W g b st) := ⟨by rw [hW]; exact hR.kept (World.grownBy_alloc w o none) (by simp) (by simp)⟩
  have HX : Aside0 (Bx W w.heap.size kind n s) := ⟨by rw [hW, ho]; exact Bx.new w kind n s⟩
  obtain ⟨j, hj⟩ : ∃ j, j = w.heap.size := ⟨_, rfl⟩
  have Hne : Aside0 (j ≠ g) := ⟨by omega⟩
  rw [← hj] at HX
  rw [ho] at hW
  have HW := Aside0.mk hW
  have HJ := Aside0.mk hj
  clear hW ho hj hlt hR
  go_enter Try.func40, Try.ntmps40
  go_wp2_with fail
  try rw [← HW.out]
  try rw [← HJ.out]
  clear HW HJ
  refine start_ (n := 8) (S := fun x_ => World.grownBy W x_ (some g)) (ds := []) #[false, false, false, false, false, false, false, false] (by kernel_rfl) rfl rfl (grown_drewN (grown_refl _ (some g)) 1) (fun hHeld => ?_)
  refine with_tabW tab_magpielaw01_back_8 bits_magpielaw01_back_8 (fun HT_ HW_ => ?_)
  have HB := Aside0.mk (grown_drewN HB.out 1)
  change Aside0 (World.grownBy _ (World.drew W) _) at HB
  change World.grownBy _ (World.drew W) _ at hHeld
  have hSz : (World.drew W).heap.size = W.heap.size := rfl
  have HR := Aside0.mk (show RS (World.drew W) g b st from HR.out)
  have HX := Aside0.mk (show Bx (World.drew W) j kind n s from HX.out)
  refine wpAnyLast_str (S' := fun x_ => World.grownBy (World.drew W) x_ (some g)) (fun x_ hx_ => World.grownBy.trans hHeld hx_) (grown_refl _ (some g)) ?_
  clear hHeld hSz
  generalize World.drew W = Wd at *
  have HS := Aside0.mk (grown_refl Wd (some g))
  refine pure_ (i := 0) (N := (some 34)) (v := ?_) (a' := ?_) #[true, false, false, false, false, false, false, false] rfl rfl (any_of HT_.out (by kernel_rfl)) (fun _ _ _ h => h) (Or.inl ⟨by rfl, ?_⟩) ?_ ?_
  rotate_left
  · intro w_
    go_simp
    try with_reducible rfl
  rotate_left
  · simp only [Act.put, List.setIfInBounds_toArray, List.set_cons_zero, List.set_cons_succ, i64_w, i32_w]
    rfl
  refine pure_ (i := 2) (N := (some 36)) (v := ?_) (a' := ?_) #[true, false, true, false, false, false, false, false] rfl rfl (any_of HT_.out (by kernel_rfl)) (fun _ _ _ h => h) (Or.inl ⟨by rfl, ?_⟩) ?_ ?_
  rotate_left
  · intro w_
    go_simp
    try with_reducible rfl
  rotate_left
  · simp only [Act.put, List.setIfInBounds_toArray, List.set_cons_zero, List.set_cons_succ, i64_w, i32_w]
    rfl
  refine take_ (i := 3) (N := (some 37)) (v := ?_) (a' := ?_) #[true, false, true, true, false, false, false, false] rfl rfl (take_ofW HT_.out HW_.out (by kernel_rfl)) (fun _ _ _ h => h) (Or.inl ⟨by rfl, ?_⟩) (grown_refl _ (some g)) ?_ ?_
  rotate_left
  · intro Wx hWx
    have hc := (HX.out.kept hWx Hne.out).cell1
    go_simp
    try with_reducible rfl
  rotate_left
  · simp only [Act.put, List.setIfInBounds_toArray, List.set_cons_zero, List.set_cons_succ, i64_w, i32_w]
    rfl
  refine pure_ (i := 4) (N := (some 38)) (v := ?_) (a' := ?_) #[true, false, true, true, true, false, false, false] rfl rfl (any_of HT_.out (by kernel_rfl)) (fun _ _ _ h => h) (Or.inl ⟨by rfl, ?_⟩) ?_ ?_
  rotate_left
  · intro w_
    go_simp
    try with_reducible rfl
  rotate_left
  · simp only [Act.put, List.setIfInBounds_toArray, List.set_cons_zero, List.set_cons_succ, i64_w, i32_w]
    rfl
  refine pure_ (i := 5) (N := (some 39)) (v := ?_) (a' := ?_) #[true, false, true, true, true, true, false, false] rfl rfl (any_of HT_.out (by kernel_rfl)) (fun _ _ _ h => h) (Or.inl ⟨by rfl, ?_⟩) ?_ ?_
  rotate_left
  · intro w_
    go_simp
    try with_reducible rfl
  rotate_left
  · simp only [Act.put, List.setIfInBounds_toArray, List.set_cons_zero, List.set_cons_succ, i64_w, i32_w]
    rfl
  refine one_ (i := 1) (N := (some 35)) #[true, true, true, true, true, true, false, false] rfl rfl (one_of HT_.out (by kernel_rfl)) (by decide) (fun K hK => ?_)
  refine goes_ Try.func36 (by kernel_rfl) rfl #[.pointer (some ⟨g, 0, none⟩)] (by rfl) rfl rfl (by (try simp only [List.map_toArray, List.map_cons, List.map_nil]); first | done | rfl) ?_
  refine (HC.out _ HR.out).mono ?_
  rintro e w8_1 ⟨rfl, hr_, hg_⟩
  refine ⟨_, rfl, ?_⟩
  have HX := Aside0.mk (HX.out.kept hg_ Hne.out)
  have HR := Aside0.mk hr_
  clear hr_ HC
  have hb_ : World.grownBy Wd w8_1 (some g) := hg_
  have HB := Aside0.mk (World.grownBy.trans HB.out hb_)
  refine hK.out _ _ hb_ (fun hHeld => ?_)
  clear hK K
  refine wpAnyLast_str (S' := fun x_ => World.grownBy w8_1 x_ (some g)) (fun x_ hx_ => World.grownBy.trans hHeld hx_) (grown_refl _ (some g)) ?_
  clear hHeld
  (try clear hb)
  clear hb_
  have HS := Aside0.mk (grown_refl w8_1 (some g))
  refine norm_ (a' := ?_) ?_ ?_
  rotate_left
  · show Act.put _ (some 35) _ = _
    simp only [Act.put, List.setIfInBounds_toArray, List.set_cons_zero, List.set_cons_succ, i64_w, i32_w]
    rfl
  refine pure_ (i := 6) (N := (some 40)) (v := ?_) (a' := ?_) #[true, true, true, true, true, true, true, false] rfl rfl (any_of HT_.out (by kernel_rfl)) (fun _ _ _ h => h) (Or.inl ⟨by rfl, ?_⟩) ?_ ?_
  rotate_left
  · intro w_
    go_simp
    try with_reducible rfl
  rotate_left
  · simp only [Act.put, List.setIfInBounds_toArray, List.set_cons_zero, List.set_cons_succ, i64_w, i32_w]
    rfl
  refine pure_ (i := 7) (N := (some 4)) (v := ?_) (a' := ?_) #[true, true, true, true, true, true, true, true] rfl rfl (any_of HT_.out (by kernel_rfl)) (fun _ _ _ h => h) (Or.inl ⟨by rfl, ?_⟩) ?_ ?_
  rotate_left
  · intro w_
    go_simp
    try with_reducible rfl
  rotate_left
  · simp only [Act.put, List.setIfInBounds_toArray, List.set_cons_zero, List.set_cons_succ, i64_w, i32_w]
    rfl
  refine done_ (done_of HT_.out (by kernel_rfl)) ?_
  go_wp2_with fail
  go_ret
  exact ⟨by first | rfl | skip, HR.out, HB.out⟩
end Go.Proofs.Ytahjpeihekphcaa.N
