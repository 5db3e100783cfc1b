/- The reference's Bytes, Value, Name, Good. -/
import Derived.Test.YtfejjfbhlmjkeaaE6
set_option linter.unusedVariables false
set_option linter.unusedSimpArgs false
namespace Go.Proofs.Ytfejjfbhlmjkeaa.C
open Go.RowKit Go.Proofs.YtfejjfbhlmjkeaaW.PrintWords Go.Proofs.YtfejjfbhlmjkeaaW.PrintLast Go.Proofs.YtfejjfbhlmjkeaaW.PrintMore Go.Proofs.Ytfejjfbhlmjkeaa.B Go.Proofs.Ytfejjfbhlmjkeaa.Reg Go.Proofs.Ytfejjfbhlmjkeaa.PRecordIs Go.Proofs.Ytfejjfbhlmjkeaa.CQ Go.Proofs.Ytfejjfbhlmjkeaa.Vi Go.Proofs.Ytfejjfbhlmjkeaa.N Go.Proofs.Ytfejjfbhlmjkeaa.Bt

def T_magpieref04_Bytes_1 : Bool × List (List Nat × List Nat) := (true, [([], []), ([0], [0]), ([1], [1]), ([], []), ([3, 2], [3]), ([2, 4], [2, 4]), ([], []), ([6], [6]), ([7, 4], [7]), ([5, 8], [5, 8]), ([9, 8, 0, 1, 2, 3, 4, 5, 6, 7, 8, 9], [9])])
def B_magpieref04_Bytes_1 : List Nat := [0, 1, 3, 0, 15, 31, 0, 64, 223, 511, 1023]
theorem tab_magpieref04_Bytes_1 : rtab .any (opsOf Try.f38 1) = T_magpieref04_Bytes_1 := by kernel_rfl
theorem bits_magpieref04_Bytes_1 : waitsOk T_magpieref04_Bytes_1.2 B_magpieref04_Bytes_1 = true := by kernel_rfl
set_option maxRecDepth 20000 in
set_option maxHeartbeats 2000000 in
theorem refBytes_any (x : Ent) (w : World) (hx : x.In w) (hs : Short x.ls) (hln : x.line.size ≤ 100000) (h0 : -9223372036854775808 ≤ x.at_ ∧ x.at_ ≤ 9223372036854775807) :
    Calls Try.prog 38 #[x.val] w fun e w' => e = .returned (.string (str (entB x.key))) ∧ Below w.heap.size w w' := by
  obtain ⟨W, hW⟩ : ∃ W, W = w.alloc (.cells #[.int .i64 x.at_, .slice x.A x.ls.length x.c, .string x.line] 34) := ⟨_, rfl⟩
  obtain ⟨j, hj⟩ : ∃ j, j = w.heap.size := ⟨_, rfl⟩
  have HBo : Aside0 (Below w.heap.size w W) := ⟨by rw [hW]; exact below_alloc (Below.refl _ w) _⟩
  have XA : Aside0 (BoxE W j x) := ⟨by rw [hW, hj]; exact Go.heap_alloc_new w _⟩
  obtain ⟨p0, hp0⟩ : ∃ p, p = str (vint (zig x.at_)) := ⟨_, rfl⟩
  obtain ⟨p1, hp1⟩ : ∃ p, p = str (putB x.ls) := ⟨_, rfl⟩
  obtain ⟨p2, hp2⟩ : ∃ p, p = str (txt x.line) := ⟨_, rfl⟩
  have HP : Aside0 (p0 ++ p1 ++ p2 = str (entB x.key)) := ⟨by
    rw [hp0, hp1, hp2, str_app, str_app]
    unfold entB Ent.key
    simp only [List.append_assoc]⟩
  have y0 : p0.size ≤ 10 := by rw [hp0, str_size]; exact vint_le10 (zig_lt h0.1 h0.2)
  have y1 : p1.size ≤ 200030000 := by rw [hp1, str_size]; exact putB_len x.ls hs
  have y2 : p2.size ≤ 100010 := by rw [hp2, str_size]; exact txt_len hln
  have z0 : ¬ 9223372036854775807 < p0.size + p1.size := by omega
  have z1 : ¬ 9223372036854775807 < (p0 ++ p1).size + p2.size := by rw [ByteArray.size_append]; omega
  have z2 : ¬ 9223372036854775807 < p0.size + p1.size + p2.size := by omega
  have H0 : Aside0 (∀ V, Calls Try.prog 67 #[.int .i64 x.at_] V fun e w' => e = .returned (.string p0) ∧ Below V.heap.size V w') := ⟨fun V => by rw [hp0]; exact refInt x.at_ V h0.1 h0.2⟩
  have H1 : Aside0 (∀ V, Below W.heap.size W V → Calls Try.prog 36 #[x.val] V fun e w' => e = .returned (.string p1) ∧ Below V.heap.size V w') := ⟨fun V h => by rw [hp1]; exact refStream_any x V ((hx.below HBo.out).below h) hs⟩
  have H2 : Aside0 (∀ V, Calls Try.prog 64 #[.string x.line] V fun e w' => e = .returned (.string p2) ∧ Below V.heap.size V w') := ⟨fun V => by rw [hp2]; exact txt_any x.line V hln⟩
  have HW := Aside0.mk hW
  have HJ := Aside0.mk hj
  clear hx hs hln h0 hW hj hp0 hp1 hp2 y0 y1 y2
  unfold Ent.val at *
  go_enter Try.func38, Try.ntmps38
  go_wp2_with fail
  try rw [← HW.out]
  try rw [← HJ.out]
  clear HW HJ
  have HB : Aside0 (Below W.heap.size W W) := ⟨Below.refl _ _⟩
  have HBS : Aside0 (Below W.heap.size W W) := ⟨Below.refl _ _⟩
  refine start_ (n := 11) (S := fun x_ => Below W.heap.size W x_) (ds := []) #[false, false, false, false, false, false, false, false, false, false, false] (by kernel_rfl) rfl rfl (pw_below_drewN (Below.refl _ _) 1) (fun hHeld => ?_)
  refine with_tabW tab_magpieref04_Bytes_1 bits_magpieref04_Bytes_1 (fun HT_ HW_ => ?_)
  have HB := Aside0.mk (pw_below_drewN HB.out 1)
  change Aside0 (Below _ _ (World.drew W)) at HB
  change Below _ _ (World.drew W) at hHeld
  have hSz : (World.drew W).heap.size = W.heap.size := rfl
  have XA := Aside0.mk (show BoxE (World.drew W) j x from XA.out)
  have H1 := Aside0.mk (fun V (h : Below (World.drew W).heap.size (World.drew W) V) => H1.out V ⟨h.os, h.tape, h.output, h.size, h.block⟩)
  have HBS : Aside0 (Below (World.drew W).heap.size (World.drew W) (World.drew W)) := ⟨Below.refl _ _⟩
  refine wpAnyLast_str (S' := fun x_ => Below (World.drew W).heap.size (World.drew W) x_) (fun x_ hx_ => below_step hHeld hx_) (Below.refl _ _) ?_
  clear hHeld hSz
  generalize World.drew W = Wd at *
  have HS := Aside0.mk (Below.refl Wd.heap.size Wd)
  refine pure_ (i := 0) (N := (some 3)) (v := ?_) (a' := ?_) #[true, false, false, false, false, false, false, false, false, false, false] rfl rfl (any_of HT_.out (by kernel_rfl)) (fun _ _ _ h => h) (Or.inl ⟨by rfl, ?_⟩) ?_ ?_
  rotate_left
  · intro w_
    go_simp
    try with_reducible rfl
  rotate_left
  · simp only [Act.put, List.setIfInBounds_toArray, List.set_cons_zero, List.set_cons_succ, i64_w, i32_w]
    rfl
  refine pure_ (i := 6) (N := (some 9)) (v := ?_) (a' := ?_) #[true, false, false, false, false, false, true, false, false, false, false] rfl rfl (any_of HT_.out (by kernel_rfl)) (fun _ _ _ h => h) (Or.inl ⟨by rfl, ?_⟩) ?_ ?_
  rotate_left
  · intro w_
    go_simp
    try with_reducible rfl
  rotate_left
  · simp only [Act.put, List.setIfInBounds_toArray, List.set_cons_zero, List.set_cons_succ, i64_w, i32_w]
    rfl
  refine take_ (i := 1) (N := (some 4)) (v := ?_) (a' := ?_) #[true, true, false, false, false, false, true, false, false, false, false] rfl rfl (take_ofW HT_.out HW_.out (by kernel_rfl)) (fun _ _ _ h => h) (Or.inl ⟨by rfl, ?_⟩) (Below.refl _ _) ?_ ?_
  rotate_left
  · intro Wx hWx
    have hc := (XA.out.below hWx).c0
    go_simp
    try with_reducible rfl
  rotate_left
  · simp only [Act.put, List.setIfInBounds_toArray, List.set_cons_zero, List.set_cons_succ, i64_w, i32_w]
    rfl
  refine take_ (i := 3) (N := (some 6)) (v := ?_) (a' := ?_) #[true, true, false, true, false, false, true, false, false, false, false] rfl rfl (take_ofW HT_.out HW_.out (by kernel_rfl)) (fun _ _ _ h => h) (Or.inl ⟨by rfl, ?_⟩) (Below.refl _ _) ?_ ?_
  rotate_left
  · intro Wx hWx
    have h0 := (XA.out.below hWx).c0
    have h1 := (XA.out.below hWx).c1
    have h2 := (XA.out.below hWx).c2
    go_simp
    try with_reducible rfl
  rotate_left
  · simp only [Act.put, List.setIfInBounds_toArray, List.set_cons_zero, List.set_cons_succ, i64_w, i32_w]
    rfl
  refine take_ (i := 7) (N := (some 10)) (v := ?_) (a' := ?_) #[true, true, false, true, false, false, true, true, false, false, false] rfl rfl (take_ofW HT_.out HW_.out (by kernel_rfl)) (fun _ _ _ h => h) (Or.inl ⟨by rfl, ?_⟩) (Below.refl _ _) ?_ ?_
  rotate_left
  · intro Wx hWx
    have hc := (XA.out.below hWx).c2
    go_simp
    try with_reducible rfl
  rotate_left
  · simp only [Act.put, List.setIfInBounds_toArray, List.set_cons_zero, List.set_cons_succ, i64_w, i32_w]
    rfl
  refine one_ (i := 2) (N := (some 5)) #[true, true, true, true, false, false, true, true, false, false, false] rfl rfl (one_of HT_.out (by kernel_rfl)) (by decide) (fun K hK => ?_)
  refine goes_ Try.func67 (by kernel_rfl) rfl #[.int .i64 x.at_] (by rfl) rfl rfl (by (try simp only [List.map_toArray, List.map_cons, List.map_nil]); first | done | rfl) ?_
  refine (H0.out _).mono ?_
  rintro e w1_2 ⟨rfl, hb_1⟩
  refine ⟨_, rfl, ?_⟩
  have XA := Aside0.mk (XA.out.below hb_1)
  have HBS := Aside0.mk (below_step HBS.out hb_1)
  have hb_ : Below Wd.heap.size Wd w1_2 := hb_1
  have HB := Aside0.mk (below_step HB.out hb_)
  refine hK.out _ _ hb_ (fun hHeld => ?_)
  clear hK K
  refine wpAnyLast_str (S' := fun x_ => Below w1_2.heap.size w1_2 x_) (fun x_ hx_ => below_step hHeld hx_) (Below.refl _ _) ?_
  clear hHeld
  (try clear hb)
  clear hb_
  have HS := Aside0.mk (Below.refl w1_2.heap.size w1_2)
  refine norm_ (a' := ?_) ?_ ?_
  rotate_left
  · show Act.put _ (some 5) _ = _
    simp only [Act.put, List.setIfInBounds_toArray, List.set_cons_zero, List.set_cons_succ, i64_w, i32_w]
    rfl
  refine one_ (i := 4) (N := (some 7)) #[true, true, true, true, true, false, true, true, false, false, false] rfl rfl (one_of HT_.out (by kernel_rfl)) (by decide) (fun K hK => ?_)
  refine goes_ Try.func36 (by kernel_rfl) rfl #[.agg #[.int .i64 x.at_, .slice x.A x.ls.length x.c, .string x.line]] (by rfl) rfl rfl (by (try simp only [List.map_toArray, List.map_cons, List.map_nil]); first | done | rfl) ?_
  refine (H1.out _ HBS.out).mono ?_
  rintro e w1_4 ⟨rfl, hb_1⟩
  refine ⟨_, rfl, ?_⟩
  have XA := Aside0.mk (XA.out.below hb_1)
  have hb_ : Below w1_2.heap.size w1_2 w1_4 := hb_1
  have HB := Aside0.mk (below_step HB.out hb_)
  refine hK.out _ _ hb_ (fun hHeld => ?_)
  clear hK K
  refine wpAnyLast_str (S' := fun x_ => Below w1_4.heap.size w1_4 x_) (fun x_ hx_ => below_step hHeld hx_) (Below.refl _ _) ?_
  clear hHeld
  (try clear hb)
  clear hb_
  have HS := Aside0.mk (Below.refl w1_4.heap.size w1_4)
  refine norm_ (a' := ?_) ?_ ?_
  rotate_left
  · show Act.put _ (some 7) _ = _
    simp only [Act.put, List.setIfInBounds_toArray, List.set_cons_zero, List.set_cons_succ, i64_w, i32_w]
    rfl
  refine pure_ (i := 5) (N := (some 8)) (v := ?_) (a' := ?_) #[true, true, true, true, true, true, true, true, false, false, false] rfl rfl (any_of HT_.out (by kernel_rfl)) (fun _ _ _ h => h) (Or.inl ⟨by rfl, ?_⟩) ?_ ?_
  rotate_left
  · intro w_
    go_simp
    try with_reducible rfl
  rotate_left
  · simp only [Act.put, List.setIfInBounds_toArray, List.set_cons_zero, List.set_cons_succ, i64_w, i32_w]
    rfl
  refine one_ (i := 8) (N := (some 11)) #[true, true, true, true, true, true, true, true, true, false, false] rfl rfl (one_of HT_.out (by kernel_rfl)) (by decide) (fun K hK => ?_)
  refine goes_ Try.func64 (by kernel_rfl) rfl #[.string x.line] (by rfl) rfl rfl (by (try simp only [List.map_toArray, List.map_cons, List.map_nil]); first | done | rfl) ?_
  refine (H2.out _).mono ?_
  rintro e w1_8 ⟨rfl, hb_1⟩
  refine ⟨_, rfl, ?_⟩
  have hb_ : Below w1_4.heap.size w1_4 w1_8 := hb_1
  have HB := Aside0.mk (below_step HB.out hb_)
  refine hK.out _ _ hb_ (fun hHeld => ?_)
  clear hK K
  refine wpAnyLast_str (S' := fun x_ => Below w1_8.heap.size w1_8 x_) (fun x_ hx_ => below_step hHeld hx_) (Below.refl _ _) ?_
  clear hHeld
  (try clear hb)
  clear hb_
  have HS := Aside0.mk (Below.refl w1_8.heap.size w1_8)
  refine norm_ (a' := ?_) ?_ ?_
  rotate_left
  · show Act.put _ (some 11) _ = _
    simp only [Act.put, List.setIfInBounds_toArray, List.set_cons_zero, List.set_cons_succ, i64_w, i32_w]
    rfl
  refine pure_ (i := 9) (N := (some 12)) (v := ?_) (a' := ?_) #[true, true, true, true, true, true, true, true, true, true, false] rfl rfl (any_of HT_.out (by kernel_rfl)) (fun _ _ _ h => h) (Or.inl ⟨by rfl, ?_⟩) ?_ ?_
  rotate_left
  · intro w_
    go_simp
    try with_reducible rfl
  rotate_left
  · simp only [Act.put, List.setIfInBounds_toArray, List.set_cons_zero, List.set_cons_succ, i64_w, i32_w]
    rfl
  refine pure_ (i := 10) (N := (some 2)) (v := ?_) (a' := ?_) #[true, true, true, true, true, true, true, true, true, true, true] rfl rfl (any_of HT_.out (by kernel_rfl)) (fun _ _ _ h => h) (Or.inl ⟨by rfl, ?_⟩) ?_ ?_
  rotate_left
  · intro w_
    go_simp
    try with_reducible rfl
  rotate_left
  · simp only [Act.put, List.setIfInBounds_toArray, List.set_cons_zero, List.set_cons_succ, i64_w, i32_w]
    rfl
  refine done_ (done_of HT_.out (by kernel_rfl)) ?_
  go_wp2_with fail
  go_ret
  exact ⟨by rw [← HP.out]; rfl, below_step HBo.out HB.out⟩

/-- A label's value. -/
def valueOf : List S47 → ByteArray → ByteArray × Bool
  | [], _ => (⟨#[]⟩, false)
  | x :: xs, n => if x.f0.toList = n.toList then (x.f1, true) else valueOf xs n
theorem value_l (n : ByteArray) (xs : List S47) (hm : xs.length ≤ 100000) : ∀ (k i : Nat), xs.length - i < k → i ≤ xs.length → record_Value.l0 k n xs (xs.length : Int) (i : Int) = some (valueOf (xs.drop i) n)
  | 0, i, h, hi => by omega
  | k + 1, i, h, hi => by
    rw [record_Value.l0]
    by_cases hlt : i < xs.length
    · have ih := value_l n xs hm k (i + 1) (by omega) (by omega)
      rw [if_pos (by omega), if_pos (by omega), if_pos (by omega), at47 hlt, w64_in _ (by omega), List.drop_eq_getElem_cons hlt, valueOf]
      rw [show ((i : Int) + 1) = ((i + 1 : Nat) : Int) by omega, ih]
      split <;> rfl
    · rw [if_neg (by omega), List.drop_eq_nil_of_le (by omega)]; rfl
theorem refValue_l (n : ByteArray) (xs : List S47) (hm : xs.length ≤ 100000) : ∀ (k i : Nat), xs.length - i < k → i ≤ xs.length → magpieref04_Value.l0 k n xs (xs.length : Int) (i : Int) = some (valueOf (xs.drop i) n)
  | 0, i, h, hi => by omega
  | k + 1, i, h, hi => by
    rw [magpieref04_Value.l0]
    by_cases hlt : i < xs.length
    · have ih := refValue_l n xs hm k (i + 1) (by omega) (by omega)
      rw [if_pos (by omega), if_pos (by omega), if_pos (by omega), at47 hlt, w64_in _ (by omega), List.drop_eq_getElem_cons hlt, valueOf]
      rw [show ((i : Int) + 1) = ((i + 1 : Nat) : Int) by omega, ih]
      split <;> rfl
    · rw [if_neg (by omega), List.drop_eq_nil_of_le (by omega)]; rfl
theorem value_any (x : Ent) (n : ByteArray) (w : World) (hx : x.In w) (v : ByteArray) (is : Bool) (h : valueOf x.ls n = (v, is)) : Calls Try.prog 30 #[x.val, .string n] w fun e w' => e = .returned (.tuple #[.string v, .bool is]) ∧ Below w.heap.size w w' :=
  record_Value.calls 100001 x.at_ x.A x.c x.ls x.line n v is w hx.lies hx.cap (by
    have := value_l n x.ls hx.few 100001 0 (by have := hx.few; omega) (by omega)
    rw [List.drop_zero, h] at this
    exact this)
theorem refValue_any (x : Ent) (n : ByteArray) (w : World) (hx : x.In w) (v : ByteArray) (is : Bool) (h : valueOf x.ls n = (v, is)) : Calls Try.prog 31 #[x.val, .string n] w fun e w' => e = .returned (.tuple #[.string v, .bool is]) ∧ Below w.heap.size w w' :=
  magpieref04_Value.calls 100001 x.at_ x.A x.c x.ls x.line n v is w hx.lies hx.cap (by
    have := refValue_l n x.ls hx.few 100001 0 (by have := hx.few; omega) (by omega)
    rw [List.drop_zero, h] at this
    exact this)
end Go.Proofs.Ytfejjfbhlmjkeaa.C
