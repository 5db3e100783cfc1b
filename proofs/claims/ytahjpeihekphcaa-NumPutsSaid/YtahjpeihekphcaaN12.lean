/- The walk of the law NumPuts. -/
import Derived.Test.YtahjpeihekphcaaN11
set_option linter.unusedVariables false
set_option linter.unusedSimpArgs false
namespace Go.Proofs.Ytahjpeihekphcaa.N
open Go.RowKit Go.Proofs.YtahjpeihekphcaaW.PrintWords Go.Proofs.YtahjpeihekphcaaW.PrintLast Go.Proofs.Ytahjpeihekphcaa.Bt Go.Proofs.Ytahjpeihekphcaa.B Go.Proofs.Ytahjpeihekphcaa.Vi Go.Proofs.Ytahjpeihekphcaa.Reg

theorem add_str (s : ByteArray) (l : List UInt8) : s ++ str l = str (s.data.toList ++ l) := by
  rw [← str_data (s ++ str l), ByteArray.data_append, Array.toList_append, data_str]
def T_magpielaw01_NumPuts_5 : Bool × List (List Nat × List Nat) := (true, [([], []), ([0], [0]), ([], []), ([1, 2], [1, 2]), ([3], [3]), ([], []), ([], []), ([6, 3], [6]), ([5, 7], [5, 7]), ([4, 8], [4, 8]), ([9, 7], [9]), ([10], [10]), ([11, 10, 10], [10, 11]), ([10], [10]), ([13, 12, 10], [10, 13]), ([14, 10], [10, 14]), ([12, 15, 10], [10, 12, 15]), ([10, 16], [10, 16]), ([17, 14], [17]), ([18], [18]), ([19, 18], [18, 19]), ([18], [18]), ([20, 21, 18, 18], [18, 20, 21]), ([22, 18], [18, 22]), ([18], [18]), ([18], [18]), ([25, 22, 18], [18, 25]), ([24, 26, 18], [18, 24, 26]), ([23, 27, 18], [18, 23, 27]), ([18, 28], [18, 28])])
def B_magpielaw01_NumPuts_5 : List Nat := [0, 1, 0, 7, 15, 0, 0, 79, 239, 511, 1023, 2047, 4095, 2047, 16383, 32767, 65535, 131071, 262143, 524287, 1048575, 524287, 4194303, 8388607, 524287, 524287, 41943039, 125829119, 268435455, 536870911]
theorem tab_magpielaw01_NumPuts_5 : rtab .any (opsOf Try.f8 5) = T_magpielaw01_NumPuts_5 := by kernel_rfl
theorem bits_magpielaw01_NumPuts_5 : waitsOk T_magpielaw01_NumPuts_5.2 B_magpielaw01_NumPuts_5 = true := by kernel_rfl
def T_magpielaw01_NumPuts_7 : Bool × List (List Nat × List Nat) := (true, [([], []), ([0], [0]), ([], []), ([1, 2], [1, 2]), ([3], [3]), ([], []), ([], []), ([6, 3], [6]), ([5, 7], [5, 7]), ([4, 8], [4, 8]), ([9, 7], [9]), ([10], [10]), ([11, 10], [10, 11]), ([10], [10]), ([12, 13, 10, 10], [10, 12, 13]), ([14, 10], [10, 14]), ([10], [10]), ([10], [10]), ([17, 14, 10], [10, 17]), ([16, 18, 10], [10, 16, 18]), ([15, 19, 10], [10, 15, 19]), ([10, 20], [10, 20]), ([21, 18, 0, 1, 2, 3, 4, 5, 6, 7, 8, 9, 10, 11, 12, 13, 14, 15, 16, 17, 18, 19, 20, 21], [21])])
def B_magpielaw01_NumPuts_7 : List Nat := [0, 1, 0, 7, 15, 0, 0, 79, 239, 511, 1023, 2047, 4095, 2047, 16383, 32767, 2047, 2047, 163839, 491519, 1048575, 2097151, 4194303]
theorem tab_magpielaw01_NumPuts_7 : rtab .any (opsOf Try.f8 7) = T_magpielaw01_NumPuts_7 := by kernel_rfl
theorem bits_magpielaw01_NumPuts_7 : waitsOk T_magpielaw01_NumPuts_7.2 B_magpielaw01_NumPuts_7 = true := by kernel_rfl
set_option maxHeartbeats 2000000 in
theorem numPuts_any (a0 : ByteArray) (n : Nat) (k : Int) (s : ByteArray) (is : Bool) (w : World) (hn : n < 18446744073709551616) (hk0 : -9223372036854775808 ≤ k) (hk1 : k ≤ 9223372036854775807) :
    Calls Try.prog 8 #[.string a0, .int .u64 (n : Int), .int .i64 k, .string s, .bool is] w fun e w' => e = .returned (.bool true) ∧ Below w.heap.size w w' := by
  have Hn := Aside0.mk hn
  have Hk := Aside0.mk (And.intro hk0 hk1)
  clear hn hk0 hk1
  by_cases hlen : 1000 < a0.size ∨ 1000 < s.size
  · by_cases h1 : 1000 < a0.size
    · have c0 : decide (1000 < (a0.size : Int)) = true := decide_eq_true (by omega)
      go_enter Try.func8, Try.ntmps8
      go_wp2_with fail
      ((with_reducible refine (alive_any w).mono ?_); rintro e w1 ⟨rfl, hb⟩)
      have HB := Aside0.mk hb
      clear hb
      go_wp2_with fail
      go_ret
      exact ⟨rfl, HB.out⟩
    · have c0 : decide (1000 < (a0.size : Int)) = false := decide_eq_false (by omega)
      have c1 : decide (1000 < (s.size : Int)) = true := decide_eq_true (by omega)
      go_enter Try.func8, Try.ntmps8
      go_wp2_with fail
      ((with_reducible refine (alive_any w).mono ?_); rintro e w1 ⟨rfl, hb⟩)
      have HB := Aside0.mk hb
      clear hb
      go_wp2_with fail
      go_ret
      exact ⟨rfl, HB.out⟩
  have c0 : decide (1000 < (a0.size : Int)) = false := decide_eq_false (by omega)
  have c1 : decide (1000 < (s.size : Int)) = false := decide_eq_false (by omega)
  have kb := fun W => print_bytes (P := Try.prog) 9 27 5 Try.underlying9 Try.underlying27 Try.underlying5 a0 W
  have hsm : Aside0 (a0.size ≤ 1000 ∧ s.size ≤ 1000) := ⟨by omega⟩
  have hL : Aside0 (a0.data.toList.length ≤ 4611686018427) := ⟨by rw [data_length]; have := hsm.out; omega⟩
  clear hlen
  go_enter Try.func8, Try.ntmps8
  go_wp2_with fail
  ((with_reducible refine (alive_any w).mono ?_); rintro e w1 ⟨rfl, hb⟩)
  have HB := Aside0.mk hb
  clear hb
  go_wp2_with fail
  have hz1 : (str (vint n)).size = (vint n).length := str_size _
  have hv1 : a0 ++ str (vint n) = str (a0.data.toList ++ vint n) := add_str _ _
  have hv2 : a0 ++ str (vint (zig k)) = str (a0.data.toList ++ vint (zig k)) := add_str _ _
  have hd1 : ¬ 9223372036854775807 < a0.size + (vint n).length := by have := hsm.out; have := vint_le10 Hn.out; omega
  have hd2 : ¬ 9223372036854775807 < a0.size + (str (vint (zig k))).size := by rw [str_size]; have := hsm.out; have := vint_le10 (zig_lt Hk.out.1 Hk.out.2); omega
  refine start_ (n := 30) (S := fun x_ => Below w1.heap.size w1 x_) (ds := []) #[false, false, false, false, false, false, false, false, false, false, false, false, false, false, false, false, false, false, false, false, false, false, false, false, false, false, false, false, false, false] (by kernel_rfl) rfl rfl (pw_below_drewN (Below.refl _ _) 1) (fun hHeld => ?_)
  refine with_tabW tab_magpielaw01_NumPuts_5 bits_magpielaw01_NumPuts_5 (fun HT_ HW_ => ?_)
  have HB := Aside0.mk (pw_below_drewN HB.out 1)
  change Aside0 (Below _ _ (World.drew w1)) at HB
  change Below _ _ (World.drew w1) at hHeld
  have hSz : (World.drew w1).heap.size = w1.heap.size := rfl
  refine wpAnyLast_str (S' := fun x_ => Below (World.drew w1).heap.size (World.drew w1) x_) (fun x_ hx_ => below_step hHeld hx_) (Below.refl _ _) ?_
  clear hHeld hSz
  generalize World.drew w1 = w1d at *
  have HS := Aside0.mk (Below.refl w1d.heap.size w1d)
  refine pure_ (i := 0) (N := (some 21)) (v := ?_) (a' := ?_) #[true, false, false, false, false, false, false, false, false, false, false, false, false, false, false, false, false, false, false, false, false, false, false, false, false, false, false, false, false, false] rfl rfl (any_of HT_.out (by kernel_rfl)) (fun _ _ _ h => h) (Or.inl ⟨by rfl, ?_⟩) ?_ ?_
  rotate_left
  · intro w_
    go_simp
    try with_reducible rfl
  rotate_left
  · simp only [Act.put, List.setIfInBounds_toArray, List.set_cons_zero, List.set_cons_succ, i64_w, i32_w]
    rfl
  refine pure_ (i := 2) (N := (some 23)) (v := ?_) (a' := ?_) #[true, false, true, false, false, false, false, false, false, false, false, false, false, false, false, false, false, false, false, false, false, false, false, false, false, false, false, false, false, false] rfl rfl (any_of HT_.out (by kernel_rfl)) (fun _ _ _ h => h) (Or.inl ⟨by rfl, ?_⟩) ?_ ?_
  rotate_left
  · intro w_
    go_simp
    try with_reducible rfl
  rotate_left
  · simp only [Act.put, List.setIfInBounds_toArray, List.set_cons_zero, List.set_cons_succ, i64_w, i32_w]
    rfl
  refine pure_ (i := 5) (N := (some 26)) (v := ?_) (a' := ?_) #[true, false, true, false, false, true, false, false, false, false, false, false, false, false, false, false, false, false, false, false, false, false, false, false, false, false, false, false, false, false] rfl rfl (any_of HT_.out (by kernel_rfl)) (fun _ _ _ h => h) (Or.inl ⟨by rfl, ?_⟩) ?_ ?_
  rotate_left
  · intro w_
    go_simp
    try with_reducible rfl
  rotate_left
  · simp only [Act.put, List.setIfInBounds_toArray, List.set_cons_zero, List.set_cons_succ, i64_w, i32_w]
    rfl
  refine pure_ (i := 6) (N := (some 27)) (v := ?_) (a' := ?_) #[true, false, true, false, false, true, true, false, false, false, false, false, false, false, false, false, false, false, false, false, false, false, false, false, false, false, false, false, false, false] rfl rfl (any_of HT_.out (by kernel_rfl)) (fun _ _ _ h => h) (Or.inl ⟨by rfl, ?_⟩) ?_ ?_
  rotate_left
  · intro w_
    go_simp
    try with_reducible rfl
  rotate_left
  · simp only [Act.put, List.setIfInBounds_toArray, List.set_cons_zero, List.set_cons_succ, i64_w, i32_w]
    rfl
  refine one_ (i := 1) (N := (some 22)) #[true, true, true, false, false, true, true, false, false, false, false, false, false, false, false, false, false, false, false, false, false, false, false, false, false, false, false, false, false, false] rfl rfl (one_of HT_.out (by kernel_rfl)) (by decide) (fun K hK => ?_)
  refine value_ (w1 := ?_) (v := ?_) (by rfl) rfl ?_ ?_
  rotate_left 2
  · go_simp
    constructor
    · rfl
    · rfl
  have hb : Below w1d.heap.size w1d (Lib.bytesWorld w1d 5 a0) := conv_below w1d _ a0
  have HO := Aside0.mk (own_conv w1d w1d.heap.size 5 a0 (by have := hsm.out; simp only [maxLen]; omega) (Nat.le_refl _))
  have hBs := Aside0.mk hb
  have hb_ : Below w1d.heap.size w1d (Lib.bytesWorld w1d 5 a0) := hb
  refine hK.out _ _ hb_ (fun hHeld => ?_)
  clear hK K
  clear hHeld
  (try clear hb)
  generalize (Lib.bytesWorld w1d 5 a0) = w5_1 at *
  have HS := Aside0.mk hb_
  clear hb_
  refine norm_ (a' := ?_) ?_ ?_
  rotate_left
  · show Act.put _ (some 22) _ = _
    simp only [Act.put, List.setIfInBounds_toArray, List.set_cons_zero, List.set_cons_succ, i64_w, i32_w]
    rfl
  refine one_ (i := 3) (N := (some 24)) #[true, true, true, true, false, true, true, false, false, false, false, false, false, false, false, false, false, false, false, false, false, false, false, false, false, false, false, false, false, false] rfl rfl (one_of HT_.out (by kernel_rfl)) (by decide) (fun K hK => ?_)
  refine goes_ Try.func22 (by kernel_rfl) rfl #[.slice (some ⟨w1d.heap.size, 0, none⟩) a0.size (grownCap w1d a0.size 0 5), .int .u64 (n : Int)] (by rfl) rfl rfl (by (try simp only [List.map_toArray, List.map_cons, List.map_nil]); first | done | rfl) ?_
  refine (uint_any _ _ _ n _ HO.out hBs.out.size hL.out Hn.out).mono ?_
  rintro e w5_3 ⟨v3, rfl, hO3, hg3, -⟩
  refine ⟨_, rfl, ?_⟩
  have HO3 := Aside0.mk hO3
  clear hO3
  have hb_ : Below w1d.heap.size w1d w5_3 := own_grown HO.out hBs.out (Nat.le_refl _) hBs.out.size hg3
  have HB := Aside0.mk (below_step HB.out hb_)
  refine hK.out _ _ hb_ (fun hHeld => ?_)
  clear hK K
  refine wpAnyLast_str (S' := fun x_ => Below w5_3.heap.size w5_3 x_) (fun x_ hx_ => below_step hHeld hx_) (Below.refl _ _) ?_
  clear hHeld
  (try clear hb)
  clear hb_
  have HS := Aside0.mk (Below.refl w5_3.heap.size w5_3)
  refine norm_ (a' := ?_) ?_ ?_
  rotate_left
  · show Act.put _ (some 24) _ = _
    simp only [Act.put, List.setIfInBounds_toArray, List.set_cons_zero, List.set_cons_succ, i64_w, i32_w]
    rfl
  refine take_ (i := 4) (N := (some 25)) (v := ?_) (a' := ?_) #[true, true, true, true, true, true, true, false, false, false, false, false, false, false, false, false, false, false, false, false, false, false, false, false, false, false, false, false, false, false] rfl rfl (take_ofW HT_.out HW_.out (by kernel_rfl)) (fun _ _ _ h => h) (Or.inl ⟨by rfl, ?_⟩) (Below.refl _ _) ?_ ?_
  rotate_left
  · intro Wx hWx
    have hc := str_of (HO3.out.below hWx)
    go_simp
    try with_reducible rfl
  rotate_left
  · simp only [Act.put, List.setIfInBounds_toArray, List.set_cons_zero, List.set_cons_succ, i64_w, i32_w]
    rfl
  refine one_ (i := 7) (N := (some 28)) #[true, true, true, true, true, true, true, true, false, false, false, false, false, false, false, false, false, false, false, false, false, false, false, false, false, false, false, false, false, false] rfl rfl (one_of HT_.out (by kernel_rfl)) (by decide) (fun K hK => ?_)
  refine goes_ Try.func29 (by kernel_rfl) rfl #[.int .u64 (n : Int)] (by rfl) rfl rfl (by (try simp only [List.map_toArray, List.map_cons, List.map_nil]); first | done | rfl) ?_
  refine (refUint n _ Hn.out).mono ?_
  rintro e w5_7 ⟨rfl, hd⟩
  refine ⟨_, rfl, ?_⟩
  have hb_ : Below w5_3.heap.size w5_3 w5_7 := hd
  have HB := Aside0.mk (below_step HB.out hb_)
  refine hK.out _ _ hb_ (fun hHeld => ?_)
  clear hK K
  refine wpAnyLast_str (S' := fun x_ => Below w5_7.heap.size w5_7 x_) (fun x_ hx_ => below_step hHeld hx_) (Below.refl _ _) ?_
  clear hHeld
  (try clear hb)
  clear hb_
  have HS := Aside0.mk (Below.refl w5_7.heap.size w5_7)
  refine norm_ (a' := ?_) ?_ ?_
  rotate_left
  · show Act.put _ (some 28) _ = _
    simp only [Act.put, List.setIfInBounds_toArray, List.set_cons_zero, List.set_cons_succ, i64_w, i32_w]
    rfl
  refine pure_ (i := 8) (N := (some 29)) (v := ?_) (a' := ?_) #[true, true, true, true, true, true, true, true, true, false, false, false, false, false, false, false, false, false, false, false, false, false, false, false, false, false, false, false, false, false] rfl rfl (any_of HT_.out (by kernel_rfl)) (fun _ _ _ h => h) (Or.inl ⟨by rfl, ?_⟩) ?_ ?_
  rotate_left
  · intro w_
    go_simp
    try with_reducible rfl
  rotate_left
  · simp only [Act.put, List.setIfInBounds_toArray, List.set_cons_zero, List.set_cons_succ, i64_w, i32_w]
    rfl
  refine pure_ (i := 9) (N := (some 30)) (v := ?_) (a' := ?_) #[true, true, true, true, true, true, true, true, true, true, false, false, false, false, false, false, false, false, false, false, false, false, false, false, false, false, false, false, false, false] rfl rfl (any_of HT_.out (by kernel_rfl)) (fun _ _ _ h => h) (Or.inl ⟨by rfl, ?_⟩) ?_ ?_
  rotate_left
  · intro w_
    go_simp
    try with_reducible rfl
  rotate_left
  · simp only [Act.put, List.setIfInBounds_toArray, List.set_cons_zero, List.set_cons_succ, i64_w, i32_w]
    rfl
  refine pure_ (i := 10) (N := (some 31)) (v := ?_) (a' := ?_) #[true, true, true, true, true, true, true, true, true, true, true, false, false, false, false, false, false, false, false, false, false, false, false, false, false, false, false, false, false, false] rfl rfl (any_of HT_.out (by kernel_rfl)) (fun _ _ _ h => h) (Or.inl ⟨by rfl, ?_⟩) ?_ ?_
  rotate_left
  · intro w_
    go_simp
    try with_reducible rfl
  rotate_left
  · simp only [Act.put, List.setIfInBounds_toArray, List.set_cons_zero, List.set_cons_succ, i64_w, i32_w]
    rfl
  refine pure_ (i := 11) (N := (some 32)) (v := ?_) (a' := ?_) #[true, true, true, true, true, true, true, true, true, true, true, true, false, false, false, false, false, false, false, false, false, false, false, false, false, false, false, false, false, false] rfl rfl (any_of HT_.out (by kernel_rfl)) (fun _ _ _ h => h) (Or.inl ⟨by rfl, ?_⟩) ?_ ?_
  rotate_left
  · intro w_
    go_simp
    try with_reducible rfl
  rotate_left
  · simp only [Act.put, List.setIfInBounds_toArray, List.set_cons_zero, List.set_cons_succ, i64_w, i32_w]
    rfl
  refine pure_ (i := 13) (N := (some 34)) (v := ?_) (a' := ?_) #[true, true, true, true, true, true, true, true, true, true, true, true, false, true, false, false, false, false, false, false, false, false, false, false, false, false, false, false, false, false] rfl rfl (any_of HT_.out (by kernel_rfl)) (fun _ _ _ h => h) (Or.inl ⟨by rfl, ?_⟩) ?_ ?_
  rotate_left
  · intro w_
    go_simp
    try with_reducible rfl
  rotate_left
  · simp only [Act.put, List.setIfInBounds_toArray, List.set_cons_zero, List.set_cons_succ, i64_w, i32_w]
    rfl
  refine one_ (i := 12) (N := (some 33)) #[true, true, true, true, true, true, true, true, true, true, true, true, true, true, false, false, false, false, false, false, false, false, false, false, false, false, false, false, false, false] rfl rfl (one_of HT_.out (by kernel_rfl)) (by decide) (fun K hK => ?_)
  refine goes_ Try.func21 (by kernel_rfl) rfl #[.int .u64 (n : Int)] (by rfl) rfl rfl (by (try simp only [List.map_toArray, List.map_cons, List.map_nil]); first | done | rfl) ?_
  refine (size_any n Hn.out _).mono ?_
  rintro e w5_12 ⟨rfl, hw_⟩
  refine ⟨_, rfl, ?_⟩
  have hb_ : Below w5_7.heap.size w5_7 w5_12 := hw_ ▸ Below.refl _ _
  have HB := Aside0.mk (below_step HB.out hb_)
  refine hK.out _ _ hb_ (fun hHeld => ?_)
  clear hK K
  refine wpAnyLast_str (S' := fun x_ => Below w5_12.heap.size w5_12 x_) (fun x_ hx_ => below_step hHeld hx_) (Below.refl _ _) ?_
  clear hHeld
  (try clear hb)
  clear hb_
  have HS := Aside0.mk (Below.refl w5_12.heap.size w5_12)
  refine norm_ (a' := ?_) ?_ ?_
  rotate_left
  · show Act.put _ (some 33) _ = _
    simp only [Act.put, List.setIfInBounds_toArray, List.set_cons_zero, List.set_cons_succ, i64_w, i32_w]
    rfl
  refine one_ (i := 14) (N := (some 35)) #[true, true, true, true, true, true, true, true, true, true, true, true, true, true, true, false, false, false, false, false, false, false, false, false, false, false, false, false, false, false] rfl rfl (one_of HT_.out (by kernel_rfl)) (by decide) (fun K hK => ?_)
  refine goes_ Try.func29 (by kernel_rfl) rfl #[.int .u64 (n : Int)] (by rfl) rfl rfl (by (try simp only [List.map_toArray, List.map_cons, List.map_nil]); first | done | rfl) ?_
  refine (refUint n _ Hn.out).mono ?_
  rintro e w5_14 ⟨rfl, hd⟩
  refine ⟨_, rfl, ?_⟩
  have hb_ : Below w5_12.heap.size w5_12 w5_14 := hd
  have HB := Aside0.mk (below_step HB.out hb_)
  refine hK.out _ _ hb_ (fun hHeld => ?_)
  clear hK K
  refine wpAnyLast_str (S' := fun x_ => Below w5_14.heap.size w5_14 x_) (fun x_ hx_ => below_step hHeld hx_) (Below.refl _ _) ?_
  clear hHeld
  (try clear hb)
  clear hb_
  have HS := Aside0.mk (Below.refl w5_14.heap.size w5_14)
  refine norm_ (a' := ?_) ?_ ?_
  rotate_left
  · show Act.put _ (some 35) _ = _
    simp only [Act.put, List.setIfInBounds_toArray, List.set_cons_zero, List.set_cons_succ, i64_w, i32_w]
    rfl
  refine pure_ (i := 15) (N := (some 36)) (v := ?_) (a' := ?_) #[true, true, true, true, true, true, true, true, true, true, true, true, true, true, true, true, false, false, false, false, false, false, false, false, false, false, false, false, false, false] rfl rfl (any_of HT_.out (by kernel_rfl)) (fun _ _ _ h => h) (Or.inl ⟨by rfl, ?_⟩) ?_ ?_
  rotate_left
  · intro w_
    go_simp
    try with_reducible rfl
  rotate_left
  · simp only [Act.put, List.setIfInBounds_toArray, List.set_cons_zero, List.set_cons_succ, i64_w, i32_w]
    rfl
  refine pure_ (i := 16) (N := (some 37)) (v := ?_) (a' := ?_) #[true, true, true, true, true, true, true, true, true, true, true, true, true, true, true, true, true, false, false, false, false, false, false, false, false, false, false, false, false, false] rfl rfl (any_of HT_.out (by kernel_rfl)) (fun _ _ _ h => h) (Or.inl ⟨by rfl, ?_⟩) ?_ ?_
  rotate_left
  · intro w_
    go_simp
    try with_reducible rfl
  rotate_left
  · simp only [Act.put, List.setIfInBounds_toArray, List.set_cons_zero, List.set_cons_succ, i64_w, i32_w]
    rfl
  refine pure_ (i := 17) (N := (some 38)) (v := ?_) (a' := ?_) #[true, true, true, true, true, true, true, true, true, true, true, true, true, true, true, true, true, true, false, false, false, false, false, false, false, false, false, false, false, false] rfl rfl (any_of HT_.out (by kernel_rfl)) (fun _ _ _ h => h) (Or.inl ⟨by rfl, ?_⟩) ?_ ?_
  rotate_left
  · intro w_
    go_simp
    try with_reducible rfl
  rotate_left
  · simp only [Act.put, List.setIfInBounds_toArray, List.set_cons_zero, List.set_cons_succ, i64_w, i32_w]
    rfl
  refine pure_ (i := 18) (N := (some 39)) (v := ?_) (a' := ?_) #[true, true, true, true, true, true, true, true, true, true, true, true, true, true, true, true, true, true, true, false, false, false, false, false, false, false, false, false, false, false] rfl rfl (any_of HT_.out (by kernel_rfl)) (fun _ _ _ h => h) (Or.inl ⟨by rfl, ?_⟩) ?_ ?_
  rotate_left
  · intro w_
    go_simp
    try with_reducible rfl
  rotate_left
  · simp only [Act.put, List.setIfInBounds_toArray, List.set_cons_zero, List.set_cons_succ, i64_w, i32_w]
    rfl
  refine pure_ (i := 19) (N := (some 40)) (v := ?_) (a' := ?_) #[true, true, true, true, true, true, true, true, true, true, true, true, true, true, true, true, true, true, true, true, false, false, false, false, false, false, false, false, false, false] rfl rfl (any_of HT_.out (by kernel_rfl)) (fun _ _ _ h => h) (Or.inl ⟨by rfl, ?_⟩) ?_ ?_
  rotate_left
  · intro w_
    go_simp
    try with_reducible rfl
  rotate_left
  · simp only [Act.put, List.setIfInBounds_toArray, List.set_cons_zero, List.set_cons_succ, i64_w, i32_w]
    rfl
  refine pure_ (i := 21) (N := (some 42)) (v := ?_) (a' := ?_) #[true, true, true, true, true, true, true, true, true, true, true, true, true, true, true, true, true, true, true, true, false, true, false, false, false, false, false, false, false, false] rfl rfl (any_of HT_.out (by kernel_rfl)) (fun _ _ _ h => h) (Or.inl ⟨by rfl, ?_⟩) ?_ ?_
  rotate_left
  · intro w_
    go_simp
    try with_reducible rfl
  rotate_left
  · simp only [Act.put, List.setIfInBounds_toArray, List.set_cons_zero, List.set_cons_succ, i64_w, i32_w]
    rfl
  refine pure_ (i := 24) (N := (some 45)) (v := ?_) (a' := ?_) #[true, true, true, true, true, true, true, true, true, true, true, true, true, true, true, true, true, true, true, true, false, true, false, false, true, false, false, false, false, false] rfl rfl (any_of HT_.out (by kernel_rfl)) (fun _ _ _ h => h) (Or.inl ⟨by rfl, ?_⟩) ?_ ?_
  rotate_left
  · intro w_
    go_simp
    try with_reducible rfl
  rotate_left
  · simp only [Act.put, List.setIfInBounds_toArray, List.set_cons_zero, List.set_cons_succ, i64_w, i32_w]
    rfl
  refine pure_ (i := 25) (N := (some 46)) (v := ?_) (a' := ?_) #[true, true, true, true, true, true, true, true, true, true, true, true, true, true, true, true, true, true, true, true, false, true, false, false, true, true, false, false, false, false] rfl rfl (any_of HT_.out (by kernel_rfl)) (fun _ _ _ h => h) (Or.inl ⟨by rfl, ?_⟩) ?_ ?_
  rotate_left
  · intro w_
    go_simp
    try with_reducible rfl
  rotate_left
  · simp only [Act.put, List.setIfInBounds_toArray, List.set_cons_zero, List.set_cons_succ, i64_w, i32_w]
    rfl
  refine one_ (i := 20) (N := (some 41)) #[true, true, true, true, true, true, true, true, true, true, true, true, true, true, true, true, true, true, true, true, true, true, false, false, true, true, false, false, false, false] rfl rfl (one_of HT_.out (by kernel_rfl)) (by decide) (fun K hK => ?_)
  refine value_ (w1 := ?_) (v := ?_) (by rfl) rfl ?_ ?_
  rotate_left 2
  · go_simp
    constructor
    · rfl
    · rfl
  have hb : Below w5_14.heap.size w5_14 (Lib.bytesWorld w5_14 5 a0) := conv_below w5_14 _ a0
  have HO := Aside0.mk (own_conv w5_14 w5_14.heap.size 5 a0 (by have := hsm.out; simp only [maxLen]; omega) (Nat.le_refl _))
  have hBs := Aside0.mk hb
  have hb_ : Below w5_14.heap.size w5_14 (Lib.bytesWorld w5_14 5 a0) := hb
  refine hK.out _ _ hb_ (fun hHeld => ?_)
  clear hK K
  clear hHeld
  (try clear hb)
  generalize (Lib.bytesWorld w5_14 5 a0) = w5_20 at *
  have HS := Aside0.mk hb_
  clear hb_
  refine norm_ (a' := ?_) ?_ ?_
  rotate_left
  · show Act.put _ (some 41) _ = _
    simp only [Act.put, List.setIfInBounds_toArray, List.set_cons_zero, List.set_cons_succ, i64_w, i32_w]
    rfl
  refine one_ (i := 22) (N := (some 43)) #[true, true, true, true, true, true, true, true, true, true, true, true, true, true, true, true, true, true, true, true, true, true, true, false, true, true, false, false, false, false] rfl rfl (one_of HT_.out (by kernel_rfl)) (by decide) (fun K hK => ?_)
  refine goes_ Try.func28 (by kernel_rfl) rfl #[.slice (some ⟨w5_14.heap.size, 0, none⟩) a0.size (grownCap w5_14 a0.size 0 5), .int .i64 k] (by rfl) rfl rfl (by (try simp only [List.map_toArray, List.map_cons, List.map_nil]); first | done | rfl) ?_
  refine (int_any _ _ _ k _ HO.out hBs.out.size hL.out Hk.out.1 Hk.out.2).mono ?_
  rintro e w5_22 ⟨v22, rfl, hO3, hg3, -⟩
  refine ⟨_, rfl, ?_⟩
  have HO3 := Aside0.mk hO3
  clear hO3
  have hb_ : Below w5_14.heap.size w5_14 w5_22 := own_grown HO.out hBs.out (Nat.le_refl _) hBs.out.size hg3
  have HB := Aside0.mk (below_step HB.out hb_)
  refine hK.out _ _ hb_ (fun hHeld => ?_)
  clear hK K
  refine wpAnyLast_str (S' := fun x_ => Below w5_22.heap.size w5_22 x_) (fun x_ hx_ => below_step hHeld hx_) (Below.refl _ _) ?_
  clear hHeld
  (try clear hb)
  clear hb_
  have HS := Aside0.mk (Below.refl w5_22.heap.size w5_22)
  refine norm_ (a' := ?_) ?_ ?_
  rotate_left
  · show Act.put _ (some 43) _ = _
    simp only [Act.put, List.setIfInBounds_toArray, List.set_cons_zero, List.set_cons_succ, i64_w, i32_w]
    rfl
  refine take_ (i := 23) (N := (some 44)) (v := ?_) (a' := ?_) #[true, true, true, true, true, true, true, true, true, true, true, true, true, true, true, true, true, true, true, true, true, true, true, true, true, true, false, false, false, false] rfl rfl (take_ofW HT_.out HW_.out (by kernel_rfl)) (fun _ _ _ h => h) (Or.inl ⟨by rfl, ?_⟩) (Below.refl _ _) ?_ ?_
  rotate_left
  · intro Wx hWx
    have hc := str_of (HO3.out.below hWx)
    go_simp
    try with_reducible rfl
  rotate_left
  · simp only [Act.put, List.setIfInBounds_toArray, List.set_cons_zero, List.set_cons_succ, i64_w, i32_w]
    rfl
  refine one_ (i := 26) (N := (some 47)) #[true, true, true, true, true, true, true, true, true, true, true, true, true, true, true, true, true, true, true, true, true, true, true, true, true, true, true, false, false, false] rfl rfl (one_of HT_.out (by kernel_rfl)) (by decide) (fun K hK => ?_)
  refine goes_ Try.func30 (by kernel_rfl) rfl #[.int .i64 k] (by rfl) rfl rfl (by (try simp only [List.map_toArray, List.map_cons, List.map_nil]); first | done | rfl) ?_
  refine (refInt k _ Hk.out.1 Hk.out.2).mono ?_
  rintro e w5_26 ⟨rfl, hd⟩
  refine ⟨_, rfl, ?_⟩
  have hb_ : Below w5_22.heap.size w5_22 w5_26 := hd
  have HB := Aside0.mk (below_step HB.out hb_)
  refine hK.out _ _ hb_ (fun hHeld => ?_)
  clear hK K
  refine wpAnyLast_str (S' := fun x_ => Below w5_26.heap.size w5_26 x_) (fun x_ hx_ => below_step hHeld hx_) (Below.refl _ _) ?_
  clear hHeld
  (try clear hb)
  clear hb_
  have HS := Aside0.mk (Below.refl w5_26.heap.size w5_26)
  refine norm_ (a' := ?_) ?_ ?_
  rotate_left
  · show Act.put _ (some 47) _ = _
    simp only [Act.put, List.setIfInBounds_toArray, List.set_cons_zero, List.set_cons_succ, i64_w, i32_w]
    rfl
  refine pure_ (i := 27) (N := (some 48)) (v := ?_) (a' := ?_) #[true, true, true, true, true, true, true, true, true, true, true, true, true, true, true, true, true, true, true, true, true, true, true, true, true, true, true, true, false, false] rfl rfl (any_of HT_.out (by kernel_rfl)) (fun _ _ _ h => h) (Or.inl ⟨by rfl, ?_⟩) ?_ ?_
  rotate_left
  · intro w_
    go_simp
    try with_reducible rfl
  rotate_left
  · simp only [Act.put, List.setIfInBounds_toArray, List.set_cons_zero, List.set_cons_succ, i64_w, i32_w]
    rfl
  refine pure_ (i := 28) (N := (some 49)) (v := ?_) (a' := ?_) #[true, true, true, true, true, true, true, true, true, true, true, true, true, true, true, true, true, true, true, true, true, true, true, true, true, true, true, true, true, false] rfl rfl (any_of HT_.out (by kernel_rfl)) (fun _ _ _ h => h) (Or.inl ⟨by rfl, ?_⟩) ?_ ?_
  rotate_left
  · intro w_
    go_simp
    try with_reducible rfl
  rotate_left
  · simp only [Act.put, List.setIfInBounds_toArray, List.set_cons_zero, List.set_cons_succ, i64_w, i32_w]
    rfl
  refine pure_ (i := 29) (N := (some 50)) (v := ?_) (a' := ?_) #[true, true, true, true, true, true, true, true, true, true, true, true, true, true, true, true, true, true, true, true, true, true, true, true, true, true, true, true, true, true] rfl rfl (any_of HT_.out (by kernel_rfl)) (fun _ _ _ h => h) (Or.inl ⟨by rfl, ?_⟩) ?_ ?_
  rotate_left
  · intro w_
    go_simp
    try with_reducible rfl
  rotate_left
  · simp only [Act.put, List.setIfInBounds_toArray, List.set_cons_zero, List.set_cons_succ, i64_w, i32_w]
    rfl
  refine done_ (done_of HT_.out (by kernel_rfl)) ?_
  go_wp2_with fail
  clear hz1 hv1 hv2 hd1 hd2
  have hv3 : a0 ++ str (vint s.size ++ s.data.toList) = str (a0.data.toList ++ (vint s.size ++ s.data.toList)) := add_str _ _
  have hv4 : a0 ++ str (vint (if is = true then 1 else 0)) = str (a0.data.toList ++ vint (if is = true then 1 else 0)) := add_str _ _
  have hd3 : ¬ 9223372036854775807 < a0.size + (str (vint s.size ++ s.data.toList)).size := by
    have h1 := hsm.out
    have h2 : (vint s.size).length ≤ 10 := vint_le10 (by omega)
    rw [str_size, List.length_append, data_length]
    omega
  have hd4 : ¬ 9223372036854775807 < a0.size + (str (vint (if is = true then 1 else 0))).size := by
    have h1 := hsm.out
    have h2 : (vint (if is = true then 1 else 0)).length ≤ 10 := vint_le10 (by split <;> decide)
    rw [str_size]
    omega
  obtain ⟨m, hm⟩ : ∃ m, m = vint (if is = true then 1 else 0) := ⟨_, rfl⟩
  have hbo := Aside0.mk (fun base v l w a b c => bool_any base v l is w a b c)
  have hro := Aside0.mk (fun w => refBool is w)
  rw [← hm] at hv4 hd4 hbo hro
  clear hm
  refine start_ (n := 23) (S := fun x_ => Below w5_26.heap.size w5_26 x_) (ds := []) #[false, false, false, false, false, false, false, false, false, false, false, false, false, false, false, false, false, false, false, false, false, false, false] (by kernel_rfl) rfl rfl (pw_below_drewN (Below.refl _ _) 1) (fun hHeld => ?_)
  refine with_tabW tab_magpielaw01_NumPuts_7 bits_magpielaw01_NumPuts_7 (fun HT_ HW_ => ?_)
  have HB := Aside0.mk (pw_below_drewN HB.out 1)
  change Aside0 (Below _ _ (World.drew w5_26)) at HB
  change Below _ _ (World.drew w5_26) at hHeld
  have hSz : (World.drew w5_26).heap.size = w5_26.heap.size := rfl
  refine wpAnyLast_str (S' := fun x_ => Below (World.drew w5_26).heap.size (World.drew w5_26) x_) (fun x_ hx_ => below_step hHeld hx_) (Below.refl _ _) ?_
  clear hHeld hSz
  generalize World.drew w5_26 = w5_26d at *
  have HS := Aside0.mk (Below.refl w5_26d.heap.size w5_26d)
  refine pure_ (i := 0) (N := (some 51)) (v := ?_) (a' := ?_) #[true, false, false, false, false, false, false, false, false, false, false, false, false, false, false, false, false, false, false, false, false, false, false] rfl rfl (any_of HT_.out (by kernel_rfl)) (fun _ _ _ h => h) (Or.inl ⟨by rfl, ?_⟩) ?_ ?_
  rotate_left
  · intro w_
    go_simp
    try with_reducible rfl
  rotate_left
  · simp only [Act.put, List.setIfInBounds_toArray, List.set_cons_zero, List.set_cons_succ, i64_w, i32_w]
    rfl
  refine pure_ (i := 2) (N := (some 53)) (v := ?_) (a' := ?_) #[true, false, true, false, false, false, false, false, false, false, false, false, false, false, false, false, false, false, false, false, false, false, false] rfl rfl (any_of HT_.out (by kernel_rfl)) (fun _ _ _ h => h) (Or.inl ⟨by rfl, ?_⟩) ?_ ?_
  rotate_left
  · intro w_
    go_simp
    try with_reducible rfl
  rotate_left
  · simp only [Act.put, List.setIfInBounds_toArray, List.set_cons_zero, List.set_cons_succ, i64_w, i32_w]
    rfl
  refine pure_ (i := 5) (N := (some 56)) (v := ?_) (a' := ?_) #[true, false, true, false, false, true, false, false, false, false, false, false, false, false, false, false, false, false, false, false, false, false, false] rfl rfl (any_of HT_.out (by kernel_rfl)) (fun _ _ _ h => h) (Or.inl ⟨by rfl, ?_⟩) ?_ ?_
  rotate_left
  · intro w_
    go_simp
    try with_reducible rfl
  rotate_left
  · simp only [Act.put, List.setIfInBounds_toArray, List.set_cons_zero, List.set_cons_succ, i64_w, i32_w]
    rfl
  refine pure_ (i := 6) (N := (some 57)) (v := ?_) (a' := ?_) #[true, false, true, false, false, true, true, false, false, false, false, false, false, false, false, false, false, false, false, false, false, false, false] rfl rfl (any_of HT_.out (by kernel_rfl)) (fun _ _ _ h => h) (Or.inl ⟨by rfl, ?_⟩) ?_ ?_
  rotate_left
  · intro w_
    go_simp
    try with_reducible rfl
  rotate_left
  · simp only [Act.put, List.setIfInBounds_toArray, List.set_cons_zero, List.set_cons_succ, i64_w, i32_w]
    rfl
  refine one_ (i := 1) (N := (some 52)) #[true, true, true, false, false, true, true, false, false, false, false, false, false, false, false, false, false, false, false, false, false, false, false] rfl rfl (one_of HT_.out (by kernel_rfl)) (by decide) (fun K hK => ?_)
  refine value_ (w1 := ?_) (v := ?_) (by rfl) rfl ?_ ?_
  rotate_left 2
  · go_simp
    constructor
    · rfl
    · rfl
  have hb : Below w5_26d.heap.size w5_26d (Lib.bytesWorld w5_26d 5 a0) := conv_below w5_26d _ a0
  have HO := Aside0.mk (own_conv w5_26d w5_26d.heap.size 5 a0 (by have := hsm.out; simp only [maxLen]; omega) (Nat.le_refl _))
  have hBs := Aside0.mk hb
  have hb_ : Below w5_26d.heap.size w5_26d (Lib.bytesWorld w5_26d 5 a0) := hb
  refine hK.out _ _ hb_ (fun hHeld => ?_)
  clear hK K
  clear hHeld
  (try clear hb)
  generalize (Lib.bytesWorld w5_26d 5 a0) = w7_1 at *
  have HS := Aside0.mk hb_
  clear hb_
  refine norm_ (a' := ?_) ?_ ?_
  rotate_left
  · show Act.put _ (some 52) _ = _
    simp only [Act.put, List.setIfInBounds_toArray, List.set_cons_zero, List.set_cons_succ, i64_w, i32_w]
    rfl
  refine one_ (i := 3) (N := (some 54)) #[true, true, true, true, false, true, true, false, false, false, false, false, false, false, false, false, false, false, false, false, false, false, false] rfl rfl (one_of HT_.out (by kernel_rfl)) (by decide) (fun K hK => ?_)
  refine goes_ Try.func31 (by kernel_rfl) rfl #[.slice (some ⟨w5_26d.heap.size, 0, none⟩) a0.size (grownCap w5_26d a0.size 0 5), .string s] (by rfl) rfl rfl (by (try simp only [List.map_toArray, List.map_cons, List.map_nil]); first | done | rfl) ?_
  refine (text_any _ _ _ s _ HO.out hBs.out.size hL.out (by have := hsm.out; omega)).mono ?_
  rintro e w7_3 ⟨v3, rfl, hO3, hg3, -⟩
  refine ⟨_, rfl, ?_⟩
  have HO3 := Aside0.mk hO3
  clear hO3
  have hb_ : Below w5_26d.heap.size w5_26d w7_3 := own_grown HO.out hBs.out (Nat.le_refl _) hBs.out.size hg3
  have HB := Aside0.mk (below_step HB.out hb_)
  refine hK.out _ _ hb_ (fun hHeld => ?_)
  clear hK K
  refine wpAnyLast_str (S' := fun x_ => Below w7_3.heap.size w7_3 x_) (fun x_ hx_ => below_step hHeld hx_) (Below.refl _ _) ?_
  clear hHeld
  (try clear hb)
  clear hb_
  have HS := Aside0.mk (Below.refl w7_3.heap.size w7_3)
  refine norm_ (a' := ?_) ?_ ?_
  rotate_left
  · show Act.put _ (some 54) _ = _
    simp only [Act.put, List.setIfInBounds_toArray, List.set_cons_zero, List.set_cons_succ, i64_w, i32_w]
    rfl
  refine take_ (i := 4) (N := (some 55)) (v := ?_) (a' := ?_) #[true, true, true, true, true, true, true, false, false, false, false, false, false, false, false, false, false, false, false, false, false, false, false] rfl rfl (take_ofW HT_.out HW_.out (by kernel_rfl)) (fun _ _ _ h => h) (Or.inl ⟨by rfl, ?_⟩) (Below.refl _ _) ?_ ?_
  rotate_left
  · intro Wx hWx
    have hc := str_of (HO3.out.below hWx)
    go_simp
    try with_reducible rfl
  rotate_left
  · simp only [Act.put, List.setIfInBounds_toArray, List.set_cons_zero, List.set_cons_succ, i64_w, i32_w]
    rfl
  refine one_ (i := 7) (N := (some 58)) #[true, true, true, true, true, true, true, true, false, false, false, false, false, false, false, false, false, false, false, false, false, false, false] rfl rfl (one_of HT_.out (by kernel_rfl)) (by decide) (fun K hK => ?_)
  refine goes_ Try.func32 (by kernel_rfl) rfl #[.string s] (by rfl) rfl rfl (by (try simp only [List.map_toArray, List.map_cons, List.map_nil]); first | done | rfl) ?_
  refine (refText s _ (by have := hsm.out; omega)).mono ?_
  rintro e w7_7 ⟨rfl, hd⟩
  refine ⟨_, rfl, ?_⟩
  have hb_ : Below w7_3.heap.size w7_3 w7_7 := hd
  have HB := Aside0.mk (below_step HB.out hb_)
  refine hK.out _ _ hb_ (fun hHeld => ?_)
  clear hK K
  refine wpAnyLast_str (S' := fun x_ => Below w7_7.heap.size w7_7 x_) (fun x_ hx_ => below_step hHeld hx_) (Below.refl _ _) ?_
  clear hHeld
  (try clear hb)
  clear hb_
  have HS := Aside0.mk (Below.refl w7_7.heap.size w7_7)
  refine norm_ (a' := ?_) ?_ ?_
  rotate_left
  · show Act.put _ (some 58) _ = _
    simp only [Act.put, List.setIfInBounds_toArray, List.set_cons_zero, List.set_cons_succ, i64_w, i32_w]
    rfl
  refine pure_ (i := 8) (N := (some 59)) (v := ?_) (a' := ?_) #[true, true, true, true, true, true, true, true, true, false, false, false, false, false, false, false, false, false, false, false, false, false, false] rfl rfl (any_of HT_.out (by kernel_rfl)) (fun _ _ _ h => h) (Or.inl ⟨by rfl, ?_⟩) ?_ ?_
  rotate_left
  · intro w_
    go_simp
    try with_reducible rfl
  rotate_left
  · simp only [Act.put, List.setIfInBounds_toArray, List.set_cons_zero, List.set_cons_succ, i64_w, i32_w]
    rfl
  refine pure_ (i := 9) (N := (some 60)) (v := ?_) (a' := ?_) #[true, true, true, true, true, true, true, true, true, true, false, false, false, false, false, false, false, false, false, false, false, false, false] rfl rfl (any_of HT_.out (by kernel_rfl)) (fun _ _ _ h => h) (Or.inl ⟨by rfl, ?_⟩) ?_ ?_
  rotate_left
  · intro w_
    go_simp
    try with_reducible rfl
  rotate_left
  · simp only [Act.put, List.setIfInBounds_toArray, List.set_cons_zero, List.set_cons_succ, i64_w, i32_w]
    rfl
  refine pure_ (i := 10) (N := (some 61)) (v := ?_) (a' := ?_) #[true, true, true, true, true, true, true, true, true, true, true, false, false, false, false, false, false, false, false, false, false, false, false] rfl rfl (any_of HT_.out (by kernel_rfl)) (fun _ _ _ h => h) (Or.inl ⟨by rfl, ?_⟩) ?_ ?_
  rotate_left
  · intro w_
    go_simp
    try with_reducible rfl
  rotate_left
  · simp only [Act.put, List.setIfInBounds_toArray, List.set_cons_zero, List.set_cons_succ, i64_w, i32_w]
    rfl
  refine pure_ (i := 11) (N := (some 62)) (v := ?_) (a' := ?_) #[true, true, true, true, true, true, true, true, true, true, true, true, false, false, false, false, false, false, false, false, false, false, false] rfl rfl (any_of HT_.out (by kernel_rfl)) (fun _ _ _ h => h) (Or.inl ⟨by rfl, ?_⟩) ?_ ?_
  rotate_left
  · intro w_
    go_simp
    try with_reducible rfl
  rotate_left
  · simp only [Act.put, List.setIfInBounds_toArray, List.set_cons_zero, List.set_cons_succ, i64_w, i32_w]
    rfl
  refine pure_ (i := 13) (N := (some 64)) (v := ?_) (a' := ?_) #[true, true, true, true, true, true, true, true, true, true, true, true, false, true, false, false, false, false, false, false, false, false, false] rfl rfl (any_of HT_.out (by kernel_rfl)) (fun _ _ _ h => h) (Or.inl ⟨by rfl, ?_⟩) ?_ ?_
  rotate_left
  · intro w_
    go_simp
    try with_reducible rfl
  rotate_left
  · simp only [Act.put, List.setIfInBounds_toArray, List.set_cons_zero, List.set_cons_succ, i64_w, i32_w]
    rfl
  refine pure_ (i := 16) (N := (some 67)) (v := ?_) (a' := ?_) #[true, true, true, true, true, true, true, true, true, true, true, true, false, true, false, false, true, false, false, false, false, false, false] rfl rfl (any_of HT_.out (by kernel_rfl)) (fun _ _ _ h => h) (Or.inl ⟨by rfl, ?_⟩) ?_ ?_
  rotate_left
  · intro w_
    go_simp
    try with_reducible rfl
  rotate_left
  · simp only [Act.put, List.setIfInBounds_toArray, List.set_cons_zero, List.set_cons_succ, i64_w, i32_w]
    rfl
  refine pure_ (i := 17) (N := (some 68)) (v := ?_) (a' := ?_) #[true, true, true, true, true, true, true, true, true, true, true, true, false, true, false, false, true, true, false, false, false, false, false] rfl rfl (any_of HT_.out (by kernel_rfl)) (fun _ _ _ h => h) (Or.inl ⟨by rfl, ?_⟩) ?_ ?_
  rotate_left
  · intro w_
    go_simp
    try with_reducible rfl
  rotate_left
  · simp only [Act.put, List.setIfInBounds_toArray, List.set_cons_zero, List.set_cons_succ, i64_w, i32_w]
    rfl
  refine one_ (i := 12) (N := (some 63)) #[true, true, true, true, true, true, true, true, true, true, true, true, true, true, false, false, true, true, false, false, false, false, false] rfl rfl (one_of HT_.out (by kernel_rfl)) (by decide) (fun K hK => ?_)
  refine value_ (w1 := ?_) (v := ?_) (by rfl) rfl ?_ ?_
  rotate_left 2
  · go_simp
    constructor
    · rfl
    · rfl
  have hb : Below w7_7.heap.size w7_7 (Lib.bytesWorld w7_7 5 a0) := conv_below w7_7 _ a0
  have HO := Aside0.mk (own_conv w7_7 w7_7.heap.size 5 a0 (by have := hsm.out; simp only [maxLen]; omega) (Nat.le_refl _))
  have hBs := Aside0.mk hb
  have hb_ : Below w7_7.heap.size w7_7 (Lib.bytesWorld w7_7 5 a0) := hb
  refine hK.out _ _ hb_ (fun hHeld => ?_)
  clear hK K
  clear hHeld
  (try clear hb)
  generalize (Lib.bytesWorld w7_7 5 a0) = w7_12 at *
  have HS := Aside0.mk hb_
  clear hb_
  refine norm_ (a' := ?_) ?_ ?_
  rotate_left
  · show Act.put _ (some 63) _ = _
    simp only [Act.put, List.setIfInBounds_toArray, List.set_cons_zero, List.set_cons_succ, i64_w, i32_w]
    rfl
  refine one_ (i := 14) (N := (some 65)) #[true, true, true, true, true, true, true, true, true, true, true, true, true, true, true, false, true, true, false, false, false, false, false] rfl rfl (one_of HT_.out (by kernel_rfl)) (by decide) (fun K hK => ?_)
  refine goes_ Try.func33 (by kernel_rfl) rfl #[.slice (some ⟨w7_7.heap.size, 0, none⟩) a0.size (grownCap w7_7 a0.size 0 5), .bool is] (by rfl) rfl rfl (by (try simp only [List.map_toArray, List.map_cons, List.map_nil]); first | done | rfl) ?_
  refine (hbo.out _ _ _ _ HO.out hBs.out.size hL.out).mono ?_
  rintro e w7_14 ⟨v22, rfl, hO3, hg3, -⟩
  refine ⟨_, rfl, ?_⟩
  have HO3 := Aside0.mk hO3
  clear hO3
  have hb_ : Below w7_7.heap.size w7_7 w7_14 := own_grown HO.out hBs.out (Nat.le_refl _) hBs.out.size hg3
  have HB := Aside0.mk (below_step HB.out hb_)
  refine hK.out _ _ hb_ (fun hHeld => ?_)
  clear hK K
  refine wpAnyLast_str (S' := fun x_ => Below w7_14.heap.size w7_14 x_) (fun x_ hx_ => below_step hHeld hx_) (Below.refl _ _) ?_
  clear hHeld
  (try clear hb)
  clear hb_
  have HS := Aside0.mk (Below.refl w7_14.heap.size w7_14)
  refine norm_ (a' := ?_) ?_ ?_
  rotate_left
  · show Act.put _ (some 65) _ = _
    simp only [Act.put, List.setIfInBounds_toArray, List.set_cons_zero, List.set_cons_succ, i64_w, i32_w]
    rfl
  refine take_ (i := 15) (N := (some 66)) (v := ?_) (a' := ?_) #[true, true, true, true, true, true, true, true, true, true, true, true, true, true, true, true, true, true, false, false, false, false, false] rfl rfl (take_ofW HT_.out HW_.out (by kernel_rfl)) (fun _ _ _ h => h) (Or.inl ⟨by rfl, ?_⟩) (Below.refl _ _) ?_ ?_
  rotate_left
  · intro Wx hWx
    have hc := str_of (HO3.out.below hWx)
    go_simp
    try with_reducible rfl
  rotate_left
  · simp only [Act.put, List.setIfInBounds_toArray, List.set_cons_zero, List.set_cons_succ, i64_w, i32_w]
    rfl
  refine one_ (i := 18) (N := (some 69)) #[true, true, true, true, true, true, true, true, true, true, true, true, true, true, true, true, true, true, true, false, false, false, false] rfl rfl (one_of HT_.out (by kernel_rfl)) (by decide) (fun K hK => ?_)
  refine goes_ Try.func34 (by kernel_rfl) rfl #[.bool is] (by rfl) rfl rfl (by (try simp only [List.map_toArray, List.map_cons, List.map_nil]); first | done | rfl) ?_
  refine (hro.out _).mono ?_
  rintro e w7_18 ⟨rfl, hd⟩
  refine ⟨_, rfl, ?_⟩
  have hb_ : Below w7_14.heap.size w7_14 w7_18 := hd
  have HB := Aside0.mk (below_step HB.out hb_)
  refine hK.out _ _ hb_ (fun hHeld => ?_)
  clear hK K
  refine wpAnyLast_str (S' := fun x_ => Below w7_18.heap.size w7_18 x_) (fun x_ hx_ => below_step hHeld hx_) (Below.refl _ _) ?_
  clear hHeld
  (try clear hb)
  clear hb_
  have HS := Aside0.mk (Below.refl w7_18.heap.size w7_18)
  refine norm_ (a' := ?_) ?_ ?_
  rotate_left
  · show Act.put _ (some 69) _ = _
    simp only [Act.put, List.setIfInBounds_toArray, List.set_cons_zero, List.set_cons_succ, i64_w, i32_w]
    rfl
  refine pure_ (i := 19) (N := (some 70)) (v := ?_) (a' := ?_) #[true, true, true, true, true, true, true, true, true, true, true, true, true, true, true, true, true, true, true, true, false, false, false] rfl rfl (any_of HT_.out (by kernel_rfl)) (fun _ _ _ h => h) (Or.inl ⟨by rfl, ?_⟩) ?_ ?_
  rotate_left
  · intro w_
    go_simp
    try with_reducible rfl
  rotate_left
  · simp only [Act.put, List.setIfInBounds_toArray, List.set_cons_zero, List.set_cons_succ, i64_w, i32_w]
    rfl
  refine pure_ (i := 20) (N := (some 71)) (v := ?_) (a' := ?_) #[true, true, true, true, true, true, true, true, true, true, true, true, true, true, true, true, true, true, true, true, true, false, false] rfl rfl (any_of HT_.out (by kernel_rfl)) (fun _ _ _ h => h) (Or.inl ⟨by rfl, ?_⟩) ?_ ?_
  rotate_left
  · intro w_
    go_simp
    try with_reducible rfl
  rotate_left
  · simp only [Act.put, List.setIfInBounds_toArray, List.set_cons_zero, List.set_cons_succ, i64_w, i32_w]
    rfl
  refine pure_ (i := 21) (N := (some 72)) (v := ?_) (a' := ?_) #[true, true, true, true, true, true, true, true, true, true, true, true, true, true, true, true, true, true, true, true, true, true, false] rfl rfl (any_of HT_.out (by kernel_rfl)) (fun _ _ _ h => h) (Or.inl ⟨by rfl, ?_⟩) ?_ ?_
  rotate_left
  · intro w_
    go_simp
    try with_reducible rfl
  rotate_left
  · simp only [Act.put, List.setIfInBounds_toArray, List.set_cons_zero, List.set_cons_succ, i64_w, i32_w]
    rfl
  refine pure_ (i := 22) (N := (some 10)) (v := ?_) (a' := ?_) #[true, true, true, true, true, true, true, true, true, true, true, true, true, true, true, true, true, true, true, true, true, true, true] rfl rfl (any_of HT_.out (by kernel_rfl)) (fun _ _ _ h => h) (Or.inl ⟨by rfl, ?_⟩) ?_ ?_
  rotate_left
  · intro w_
    go_simp
    try with_reducible rfl
  rotate_left
  · simp only [Act.put, List.setIfInBounds_toArray, List.set_cons_zero, List.set_cons_succ, i64_w, i32_w]
    rfl
  refine done_ (done_of HT_.out (by kernel_rfl)) ?_
  go_wp2_with fail
  go_ret
  exact ⟨rfl, HB.out⟩
theorem numPuts_walk (a0 : ByteArray) (a1 a2 : Int) (a3 : ByteArray) (a4 : Bool) (w : World) (w0 : a0.size ≤ 140737488351232) (w1 : (Lit.int .u64 a1).wf = true) (w2 : (Lit.int .i64 a2).wf = true) (w3 : a3.size ≤ 140737488351232) :
    Calls Try.prog 8 #[.string a0, .int .u64 a1, .int .i64 a2, .string a3, .bool a4] w fun e w' => e = .returned (.bool true) ∧ Below w.heap.size w w' := by
  obtain ⟨n, rfl, hn⟩ := nat_of_u64 w1
  exact numPuts_any a0 n a2 a3 a4 w hn (int_of_i64 w2).1 (int_of_i64 w2).2
end Go.Proofs.Ytahjpeihekphcaa.N
