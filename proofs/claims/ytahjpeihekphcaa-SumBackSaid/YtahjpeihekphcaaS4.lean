/- That the layer of sums is alive, and the walks of its laws. -/
import Derived.Test.YtahjpeihekphcaaS3
import Derived.Test.YtahjpeihekphcaaReg
set_option linter.unusedVariables false
set_option linter.unusedSimpArgs false
namespace Go.Proofs.Ytahjpeihekphcaa.S
open Go.RowKit Go.Proofs.YtahjpeihekphcaaW.PrintWords Go.Proofs.YtahjpeihekphcaaW.PrintLast Go.Proofs.YtahjpeihekphcaaW.PrintMore Go.Proofs.Ytahjpeihekphcaa.Bt Go.Proofs.Ytahjpeihekphcaa.B Go.Proofs.Ytahjpeihekphcaa.Crc
open Go.Proofs.Ytahjpeihekphcaa.PSumIs Go.Proofs.Ytahjpeihekphcaa.Reg

theorem crc_digits : crc [49, 50, 51, 52, 53, 54, 55, 56, 57] = 3421780262 := by decide +kernel
set_option maxHeartbeats 800000 in
theorem alive_any (w : World) : Calls Try.prog 13 #[] w fun e w' => e = .returned (.bool true) ∧ Below w.heap.size w w' := by
  have kc := fun (w : World) (C : Array Value) (n c : Nat) => Lib.run_convert_bytes_const (P := Try.prog) w 27 5 C n c Try.underlying27 Try.underlying5
  have HO : Aside0 (Own (w.alloc (.cells #[.int .u8 97, .int .u8 98] 5 (2, 3))) w.heap.size 5 (.slice (some ⟨w.heap.size, 0, none⟩) 2 2) (cs [97, 98])) := ⟨own_const w w.heap.size 5 [97, 98] (by simp [maxLen]) (Nat.le_refl _)⟩
  have HB := Aside0.mk (below_alloc (Below.refl w.heap.size w) (.cells #[.int .u8 97, .int .u8 98] 5 (2, 3)))
  go_enter Try.func13, Try.ntmps13
  go_wp2_with fail
  ((with_reducible refine (seal_any w.heap.size _ [97, 98] _ HO.out (below_size HB.out) (by decide)).mono ?_); rintro e w' ⟨v', rfl, hO2, hg2, -⟩)
  have hc := run_str (P := Try.prog) (src := 27) (dst := 9) Try.underlying27 Try.underlying5 Try.underlying9 hO2
  have HB2 := Aside0.mk (own_grown HO.out HB.out (Nat.le_refl _) (below_size HB.out) hg2)
  clear hg2 hO2
  go_wp2_with fail
  have ho : ∀ W, Calls Try.prog 14 #[.string (str (seal_ [97, 98]))] W fun e w' => e = .returned (.tuple #[.string ⟨#[97, 98]⟩, .bool true]) ∧ Below W.heap.size W w' := fun W => open_yes [97, 98] W (by decide)
  ((with_reducible refine (ho _).mono ?_); rintro e w2 ⟨rfl, hb⟩)
  have HB3 := Aside0.mk (below_step HB2.out hb)
  clear hb hc ho
  go_wp2_with fail
  have h9 : ∀ W, Calls Try.prog 16 #[.string ⟨#[49, 50, 51, 52, 53, 54, 55, 56, 57]⟩] W fun e w' => e = .returned (.int .u32 3421780262) ∧ Drawn0 W w' := fun W => by
    have h := of_any ⟨#[49, 50, 51, 52, 53, 54, 55, 56, 57]⟩ W (by decide)
    have e : crc (⟨#[49, 50, 51, 52, 53, 54, 55, 56, 57]⟩ : ByteArray).data.toList = 3421780262 := crc_digits
    rw [e] at h
    exact h
  ((with_reducible refine (h9 _).mono ?_); rintro e w3 ⟨rfl, ⟨nd, rfl⟩⟩)
  clear h9
  go_wp2
  go_ret
  exact ⟨rfl, pw_below_drewN HB3.out nd⟩

theorem opens_both (s : ByteArray) (hs : s.size ≤ 4611686018427) : ∃ (b : ByteArray) (ok : Bool),
    (∀ W, Calls Try.prog 14 #[.string s] W fun e w' => e = .returned (.tuple #[.string b, .bool ok]) ∧ Below W.heap.size W w') ∧
    (∀ W, Calls Try.prog 15 #[.string s] W fun e w' => e = .returned (.tuple #[.string b, .bool ok]) ∧ Below W.heap.size W w') := by
  by_cases h : ∃ l, s.data.toList = seal_ l
  · obtain ⟨l, hl⟩ := h
    obtain rfl : s = str (seal_ l) := by rw [← hl, str_data]
    have hz : l.length ≤ 4611686018427 := by rw [str_size, seal_length] at hs; omega
    exact ⟨str l, true, fun W => open_yes l W hz, fun W => ref_open_yes l hz W⟩
  · have hno : ∀ l, s.data.toList ≠ seal_ l := fun l e => h ⟨l, e⟩
    exact ⟨_, false, fun W => open_no s W hno hs, fun W => ref_open_no s W hno hs⟩
def T_magpielaw02_SumIs_7 : Bool × List (List Nat × List Nat) := (true, [([], []), ([0], [0]), ([], []), ([2, 1], [2]), ([1, 3], [1, 3]), ([4, 3], [4]), ([5], [5]), ([6, 5], [5, 6]), ([7, 5, 5], [5, 7]), ([8, 5], [5, 8]), ([5], [5]), ([10, 8, 5], [5, 10]), ([9, 11, 5], [5, 9, 11]), ([5, 12], [5, 12]), ([13, 11], [13]), ([14], [14]), ([14], [14]), ([15, 16, 14], [14, 15, 16]), ([14, 17], [14, 17]), ([18, 14], [18]), ([19], [19]), ([19], [19]), ([20, 21, 19], [19, 20, 21]), ([19, 22], [19, 22]), ([23, 19, 0, 1, 2, 3, 4, 5, 6, 7, 8, 9, 10, 11, 12, 13, 14, 15, 16, 17, 18, 19, 20, 21, 22, 23], [23])])
def B_magpielaw02_SumIs_7 : List Nat := [0, 1, 0, 7, 15, 31, 63, 127, 255, 511, 63, 1535, 4095, 8191, 16383, 32767, 32767, 131071, 262143, 524287, 1048575, 1048575, 4194303, 8388607, 16777215]
theorem tab_magpielaw02_SumIs_7 : rtab .any (opsOf Try.f3 7) = T_magpielaw02_SumIs_7 := by kernel_rfl
theorem bits_magpielaw02_SumIs_7 : waitsOk T_magpielaw02_SumIs_7.2 B_magpielaw02_SumIs_7 = true := by kernel_rfl
set_option maxHeartbeats 1000000 in
theorem sumIs_walk (a0 : ByteArray) (w : World) (w0 : a0.size ≤ 140737488351232) : Calls Try.prog 3 #[.string a0] w fun e w' => e = .returned (.bool true) ∧ Below w.heap.size w w' := by
  by_cases hlen : 4096 < a0.size
  · have c0 : decide (4096 < (a0.size : Int)) = true := decide_eq_true (by omega)
    go_enter Try.func3, Try.ntmps3
    go_wp2_with fail
    ((with_reducible refine (alive_any _).mono ?_); rintro e w1 ⟨rfl, hb⟩)
    have HB := Aside0.mk hb
    clear hb
    go_wp2
    go_ret
    exact ⟨rfl, HB.out⟩
  · have c0 : decide (4096 < (a0.size : Int)) = false := decide_eq_false (by omega)
    go_enter Try.func3, Try.ntmps3
    go_wp2_with fail
    ((with_reducible refine (alive_any _).mono ?_); rintro e w1 ⟨rfl, hb⟩)
    have HB := Aside0.mk hb
    clear hb
    obtain ⟨b, ok, h1, h2⟩ := opens_both a0 (by omega)
    have kb := fun W => print_bytes (P := Try.prog) 9 27 5 Try.underlying9 Try.underlying27 Try.underlying5 a0 W
    have hsm : Aside0 (a0.size ≤ 4096) := ⟨by omega⟩
    clear hlen w0
    go_wp2_with fail
    ((with_reducible refine (h1 _).mono ?_); rintro e w2 ⟨rfl, hb⟩)
    have HB2 := Aside0.mk (below_step HB.out hb)
    clear hb HB h1
    go_wp2_with fail
    ((with_reducible refine (h2 _).mono ?_); rintro e w3 ⟨rfl, hb⟩)
    have HB := Aside0.mk (below_step HB2.out hb)
    clear hb HB2 h2
    go_wp2_with fail
    have hl : a0.data.toList.length ≤ 4611686018427 := by rw [data_length]; have := hsm.out; omega
    have hof := Aside0.mk (fun W => of_any a0 W (by have := hsm.out; omega))
    have hrof := Aside0.mk (fun W => ref_of_calls a0 (by have := hsm.out; omega) W)
    have hrs := Aside0.mk (fun W => ref_seal_calls a0.data.toList hl W)
    rw [str_data] at hrs
    have hL := Aside0.mk hl
    clear hl
    refine start_ (n := 25) (S := fun x_ => Below w3.heap.size w3 x_) (ds := []) #[false, false, false, false, false, false, false, false, false, false, false, false, false, false, false, false, false, false, false, false, false, false, false, false, false] (by kernel_rfl) rfl rfl (pw_below_drewN (Below.refl _ _) 1) (fun hHeld => ?_)
    refine with_tabW tab_magpielaw02_SumIs_7 bits_magpielaw02_SumIs_7 (fun HT_ HW_ => ?_)
    have HB := Aside0.mk (pw_below_drewN HB.out 1)
    change Aside0 (Below _ _ (World.drew w3)) at HB
    change Below _ _ (World.drew w3) at hHeld
    have hSz : (World.drew w3).heap.size = w3.heap.size := rfl
    refine wpAnyLast_str (S' := fun x_ => Below (World.drew w3).heap.size (World.drew w3) x_) (fun x_ hx_ => below_step hHeld hx_) (Below.refl _ _) ?_
    clear hHeld hSz
    generalize World.drew w3 = w3d at *
    have HS := Aside0.mk (Below.refl w3d.heap.size w3d)
    refine pure_ (i := 0) (N := (some 22)) (v := ?_) (a' := ?_) #[true, false, false, false, false, false, false, false, false, false, false, false, false, false, false, false, false, false, false, false, false, false, false, false, false] rfl rfl (any_of HT_.out (by kernel_rfl)) (fun _ _ _ h => h) (Or.inl ⟨by rfl, ?_⟩) ?_ ?_
    rotate_left
    · intro w_
      go_simp
      try with_reducible rfl
    rotate_left
    · simp only [Act.put, List.setIfInBounds_toArray, List.set_cons_zero, List.set_cons_succ, i64_w, i32_w]
      rfl
    refine pure_ (i := 2) (N := (some 24)) (v := ?_) (a' := ?_) #[true, false, true, false, false, false, false, false, false, false, false, false, false, false, false, false, false, false, false, false, false, false, false, false, false] rfl rfl (any_of HT_.out (by kernel_rfl)) (fun _ _ _ h => h) (Or.inl ⟨by rfl, ?_⟩) ?_ ?_
    rotate_left
    · intro w_
      go_simp
      try with_reducible rfl
    rotate_left
    · simp only [Act.put, List.setIfInBounds_toArray, List.set_cons_zero, List.set_cons_succ, i64_w, i32_w]
      rfl
    refine one_ (i := 1) (N := (some 23)) #[true, true, true, false, false, false, false, false, false, false, false, false, false, false, false, false, false, false, false, false, false, false, false, false, false] rfl rfl (one_of HT_.out (by kernel_rfl)) (by decide) (fun K hK => ?_)
    refine goes_ Try.func16 (by kernel_rfl) rfl #[.string a0] (by rfl) rfl rfl (by (try simp only [List.map_toArray, List.map_cons, List.map_nil]); first | done | rfl) ?_
    refine (hof.out _).mono ?_
    rintro e w7_1 ⟨rfl, hd⟩
    refine ⟨_, rfl, ?_⟩
    have hb_ := hd.below
    have HB := Aside0.mk (below_step HB.out hb_)
    refine hK.out _ _ hb_ (fun hHeld => ?_)
    clear hK K
    refine wpAnyLast_str (S' := fun x_ => Below w7_1.heap.size w7_1 x_) (fun x_ hx_ => below_step hHeld hx_) (Below.refl _ _) ?_
    clear hHeld
    (try clear hb)
    clear hb_
    have HS := Aside0.mk (Below.refl w7_1.heap.size w7_1)
    refine norm_ (a' := ?_) ?_ ?_
    rotate_left
    · show Act.put _ (some 23) _ = _
      simp only [Act.put, List.setIfInBounds_toArray, List.set_cons_zero, List.set_cons_succ, i64_w, i32_w]
      rfl
    refine one_ (i := 3) (N := (some 25)) #[true, true, true, true, false, false, false, false, false, false, false, false, false, false, false, false, false, false, false, false, false, false, false, false, false] rfl rfl (one_of HT_.out (by kernel_rfl)) (by decide) (fun K hK => ?_)
    refine goes_ Try.func17 (by kernel_rfl) rfl #[.string a0] (by rfl) rfl rfl (by (try simp only [List.map_toArray, List.map_cons, List.map_nil]); first | done | rfl) ?_
    refine (hrof.out _).mono ?_
    rintro e w7_3 ⟨rfl, hd⟩
    refine ⟨_, rfl, ?_⟩
    have hb_ := hd.below
    have HB := Aside0.mk (below_step HB.out hb_)
    refine hK.out _ _ hb_ (fun hHeld => ?_)
    clear hK K
    refine wpAnyLast_str (S' := fun x_ => Below w7_3.heap.size w7_3 x_) (fun x_ hx_ => below_step hHeld hx_) (Below.refl _ _) ?_
    clear hHeld
    (try clear hb)
    clear hb_
    have HS := Aside0.mk (Below.refl w7_3.heap.size w7_3)
    refine norm_ (a' := ?_) ?_ ?_
    rotate_left
    · show Act.put _ (some 25) _ = _
      simp only [Act.put, List.setIfInBounds_toArray, List.set_cons_zero, List.set_cons_succ, i64_w, i32_w]
      rfl
    refine pure_ (i := 4) (N := (some 26)) (v := ?_) (a' := ?_) #[true, true, true, true, true, false, false, false, false, false, false, false, false, false, false, false, false, false, false, false, false, false, false, false, false] rfl rfl (any_of HT_.out (by kernel_rfl)) (fun _ _ _ h => h) (Or.inl ⟨by rfl, ?_⟩) ?_ ?_
    rotate_left
    · intro w_
      go_simp
      try with_reducible rfl
    rotate_left
    · simp only [Act.put, List.setIfInBounds_toArray, List.set_cons_zero, List.set_cons_succ, i64_w, i32_w]
      rfl
    refine pure_ (i := 5) (N := (some 27)) (v := ?_) (a' := ?_) #[true, true, true, true, true, true, false, false, false, false, false, false, false, false, false, false, false, false, false, false, false, false, false, false, false] rfl rfl (any_of HT_.out (by kernel_rfl)) (fun _ _ _ h => h) (Or.inl ⟨by rfl, ?_⟩) ?_ ?_
    rotate_left
    · intro w_
      go_simp
      try with_reducible rfl
    rotate_left
    · simp only [Act.put, List.setIfInBounds_toArray, List.set_cons_zero, List.set_cons_succ, i64_w, i32_w]
      rfl
    refine pure_ (i := 6) (N := (some 28)) (v := ?_) (a' := ?_) #[true, true, true, true, true, true, true, false, false, false, false, false, false, false, false, false, false, false, false, false, false, false, false, false, false] rfl rfl (any_of HT_.out (by kernel_rfl)) (fun _ _ _ h => h) (Or.inl ⟨by rfl, ?_⟩) ?_ ?_
    rotate_left
    · intro w_
      go_simp
      try with_reducible rfl
    rotate_left
    · simp only [Act.put, List.setIfInBounds_toArray, List.set_cons_zero, List.set_cons_succ, i64_w, i32_w]
      rfl
    refine pure_ (i := 10) (N := (some 32)) (v := ?_) (a' := ?_) #[true, true, true, true, true, true, true, false, false, false, true, false, false, false, false, false, false, false, false, false, false, false, false, false, false] rfl rfl (any_of HT_.out (by kernel_rfl)) (fun _ _ _ h => h) (Or.inl ⟨by rfl, ?_⟩) ?_ ?_
    rotate_left
    · intro w_
      go_simp
      try with_reducible rfl
    rotate_left
    · simp only [Act.put, List.setIfInBounds_toArray, List.set_cons_zero, List.set_cons_succ, i64_w, i32_w]
      rfl
    refine one_ (i := 7) (N := (some 29)) #[true, true, true, true, true, true, true, true, false, false, true, false, false, false, false, false, false, false, false, false, false, false, false, false, false] rfl rfl (one_of HT_.out (by kernel_rfl)) (by decide) (fun K hK => ?_)
    refine value_ (w1 := ?_) (v := ?_) (by rfl) rfl ?_ ?_
    rotate_left 2
    · go_simp
      constructor
      · rfl
      · rfl
    have hb : Below w7_3.heap.size w7_3 (Lib.bytesWorld w7_3 5 a0) := conv_below w7_3 _ a0
    have HO := Aside0.mk (own_conv w7_3 w7_3.heap.size 5 a0 (by have := hsm.out; simp only [maxLen]; omega) (Nat.le_refl _))
    have hBs := Aside0.mk hb
    have hb_ := hb
    refine hK.out _ _ hb_ (fun hHeld => ?_)
    clear hK K
    clear hHeld
    (try clear hb)
    generalize (Lib.bytesWorld w7_3 5 a0) = w7_7 at *
    have HS := Aside0.mk hb_
    clear hb_
    refine norm_ (a' := ?_) ?_ ?_
    rotate_left
    · show Act.put _ (some 29) _ = _
      simp only [Act.put, List.setIfInBounds_toArray, List.set_cons_zero, List.set_cons_succ, i64_w, i32_w]
      rfl
    refine one_ (i := 8) (N := (some 30)) #[true, true, true, true, true, true, true, true, true, false, true, false, false, false, false, false, false, false, false, false, false, false, false, false, false] rfl rfl (one_of HT_.out (by kernel_rfl)) (by decide) (fun K hK => ?_)
    refine goes_ Try.func18 (by kernel_rfl) rfl #[.slice (some ⟨w7_3.heap.size, 0, none⟩) a0.size (grownCap w7_3 a0.size 0 5)] (by rfl) rfl rfl (by (try simp only [List.map_toArray, List.map_cons, List.map_nil]); first | done | rfl) ?_
    refine (seal_any _ _ _ _ HO.out hBs.out.size hL.out).mono ?_
    rintro e w7_8 ⟨v8, rfl, hO8, hg8, -⟩
    refine ⟨_, rfl, ?_⟩
    have HO8 := Aside0.mk hO8
    clear hO8
    have hb_ := own_grown HO.out hBs.out (Nat.le_refl _) hBs.out.size hg8
    have HB := Aside0.mk (below_step HB.out hb_)
    refine hK.out _ _ hb_ (fun hHeld => ?_)
    clear hK K
    refine wpAnyLast_str (S' := fun x_ => Below w7_8.heap.size w7_8 x_) (fun x_ hx_ => below_step hHeld hx_) (Below.refl _ _) ?_
    clear hHeld
    (try clear hb)
    clear hb_
    have HS := Aside0.mk (Below.refl w7_8.heap.size w7_8)
    refine norm_ (a' := ?_) ?_ ?_
    rotate_left
    · show Act.put _ (some 30) _ = _
      simp only [Act.put, List.setIfInBounds_toArray, List.set_cons_zero, List.set_cons_succ, i64_w, i32_w]
      rfl
    refine take_ (i := 9) (N := (some 31)) (v := ?_) (a' := ?_) #[true, true, true, true, true, true, true, true, true, true, true, false, false, false, false, false, false, false, false, false, false, false, false, false, false] rfl rfl (take_ofW HT_.out HW_.out (by kernel_rfl)) (fun _ _ _ h => h) (Or.inl ⟨by rfl, ?_⟩) (Below.refl _ _) ?_ ?_
    rotate_left
    · intro Wx hWx
      have hc := run_str (P := Try.prog) (src := 27) (dst := 9) Try.underlying27 Try.underlying5 Try.underlying9 (HO8.out.below hWx)
      go_simp
      try with_reducible rfl
    rotate_left
    · simp only [Act.put, List.setIfInBounds_toArray, List.set_cons_zero, List.set_cons_succ, i64_w, i32_w]
      rfl
    refine one_ (i := 11) (N := (some 33)) #[true, true, true, true, true, true, true, true, true, true, true, true, false, false, false, false, false, false, false, false, false, false, false, false, false] rfl rfl (one_of HT_.out (by kernel_rfl)) (by decide) (fun K hK => ?_)
    refine goes_ Try.func19 (by kernel_rfl) rfl #[.string a0] (by rfl) rfl rfl (by (try simp only [List.map_toArray, List.map_cons, List.map_nil]); first | done | rfl) ?_
    refine (hrs.out _).mono ?_
    rintro e w7_11 ⟨rfl, hb⟩
    refine ⟨_, rfl, ?_⟩
    have hb_ := hb
    have HB := Aside0.mk (below_step HB.out hb_)
    refine hK.out _ _ hb_ (fun hHeld => ?_)
    clear hK K
    refine wpAnyLast_str (S' := fun x_ => Below w7_11.heap.size w7_11 x_) (fun x_ hx_ => below_step hHeld hx_) (Below.refl _ _) ?_
    clear hHeld
    (try clear hb)
    clear hb_
    have HS := Aside0.mk (Below.refl w7_11.heap.size w7_11)
    refine norm_ (a' := ?_) ?_ ?_
    rotate_left
    · show Act.put _ (some 33) _ = _
      simp only [Act.put, List.setIfInBounds_toArray, List.set_cons_zero, List.set_cons_succ, i64_w, i32_w]
      rfl
    refine pure_ (i := 12) (N := (some 34)) (v := ?_) (a' := ?_) #[true, true, true, true, true, true, true, true, true, true, true, true, true, false, false, false, false, false, false, false, false, false, false, false, false] rfl rfl (any_of HT_.out (by kernel_rfl)) (fun _ _ _ h => h) (Or.inl ⟨by rfl, ?_⟩) ?_ ?_
    rotate_left
    · intro w_
      go_simp
      try with_reducible rfl
    rotate_left
    · simp only [Act.put, List.setIfInBounds_toArray, List.set_cons_zero, List.set_cons_succ, i64_w, i32_w]
      rfl
    refine pure_ (i := 13) (N := (some 35)) (v := ?_) (a' := ?_) #[true, true, true, true, true, true, true, true, true, true, true, true, true, true, false, false, false, false, false, false, false, false, false, false, false] rfl rfl (any_of HT_.out (by kernel_rfl)) (fun _ _ _ h => h) (Or.inl ⟨by rfl, ?_⟩) ?_ ?_
    rotate_left
    · intro w_
      go_simp
      try with_reducible rfl
    rotate_left
    · simp only [Act.put, List.setIfInBounds_toArray, List.set_cons_zero, List.set_cons_succ, i64_w, i32_w]
      rfl
    refine pure_ (i := 14) (N := (some 36)) (v := ?_) (a' := ?_) #[true, true, true, true, true, true, true, true, true, true, true, true, true, true, true, false, false, false, false, false, false, false, false, false, false] rfl rfl (any_of HT_.out (by kernel_rfl)) (fun _ _ _ h => h) (Or.inl ⟨by rfl, ?_⟩) ?_ ?_
    rotate_left
    · intro w_
      go_simp
      try with_reducible rfl
    rotate_left
    · simp only [Act.put, List.setIfInBounds_toArray, List.set_cons_zero, List.set_cons_succ, i64_w, i32_w]
      rfl
    refine pure_ (i := 15) (N := (some 37)) (v := ?_) (a' := ?_) #[true, true, true, true, true, true, true, true, true, true, true, true, true, true, true, true, false, false, false, false, false, false, false, false, false] rfl rfl (any_of HT_.out (by kernel_rfl)) (fun _ _ _ h => h) (Or.inl ⟨by rfl, ?_⟩) ?_ ?_
    rotate_left
    · intro w_
      go_simp
      try with_reducible rfl
    rotate_left
    · simp only [Act.put, List.setIfInBounds_toArray, List.set_cons_zero, List.set_cons_succ, i64_w, i32_w]
      rfl
    refine pure_ (i := 16) (N := (some 38)) (v := ?_) (a' := ?_) #[true, true, true, true, true, true, true, true, true, true, true, true, true, true, true, true, true, false, false, false, false, false, false, false, false] rfl rfl (any_of HT_.out (by kernel_rfl)) (fun _ _ _ h => h) (Or.inl ⟨by rfl, ?_⟩) ?_ ?_
    rotate_left
    · intro w_
      go_simp
      try with_reducible rfl
    rotate_left
    · simp only [Act.put, List.setIfInBounds_toArray, List.set_cons_zero, List.set_cons_succ, i64_w, i32_w]
      rfl
    refine pure_ (i := 17) (N := (some 39)) (v := ?_) (a' := ?_) #[true, true, true, true, true, true, true, true, true, true, true, true, true, true, true, true, true, true, false, false, false, false, false, false, false] rfl rfl (any_of HT_.out (by kernel_rfl)) (fun _ _ _ h => h) (Or.inl ⟨by rfl, ?_⟩) ?_ ?_
    rotate_left
    · intro w_
      go_simp
      try with_reducible rfl
    rotate_left
    · simp only [Act.put, List.setIfInBounds_toArray, List.set_cons_zero, List.set_cons_succ, i64_w, i32_w]
      rfl
    refine pure_ (i := 18) (N := (some 40)) (v := ?_) (a' := ?_) #[true, true, true, true, true, true, true, true, true, true, true, true, true, true, true, true, true, true, true, false, false, false, false, false, false] rfl rfl (any_of HT_.out (by kernel_rfl)) (fun _ _ _ h => h) (Or.inl ⟨by rfl, ?_⟩) ?_ ?_
    rotate_left
    · intro w_
      go_simp
      try with_reducible rfl
    rotate_left
    · simp only [Act.put, List.setIfInBounds_toArray, List.set_cons_zero, List.set_cons_succ, i64_w, i32_w]
      rfl
    refine pure_ (i := 19) (N := (some 41)) (v := ?_) (a' := ?_) #[true, true, true, true, true, true, true, true, true, true, true, true, true, true, true, true, true, true, true, true, false, false, false, false, false] rfl rfl (any_of HT_.out (by kernel_rfl)) (fun _ _ _ h => h) (Or.inl ⟨by rfl, ?_⟩) ?_ ?_
    rotate_left
    · intro w_
      go_simp
      try with_reducible rfl
    rotate_left
    · simp only [Act.put, List.setIfInBounds_toArray, List.set_cons_zero, List.set_cons_succ, i64_w, i32_w]
      rfl
    refine pure_ (i := 20) (N := (some 42)) (v := ?_) (a' := ?_) #[true, true, true, true, true, true, true, true, true, true, true, true, true, true, true, true, true, true, true, true, true, false, false, false, false] rfl rfl (any_of HT_.out (by kernel_rfl)) (fun _ _ _ h => h) (Or.inl ⟨by rfl, ?_⟩) ?_ ?_
    rotate_left
    · intro w_
      go_simp
      try with_reducible rfl
    rotate_left
    · simp only [Act.put, List.setIfInBounds_toArray, List.set_cons_zero, List.set_cons_succ, i64_w, i32_w]
      rfl
    refine pure_ (i := 21) (N := (some 43)) (v := ?_) (a' := ?_) #[true, true, true, true, true, true, true, true, true, true, true, true, true, true, true, true, true, true, true, true, true, true, false, false, false] rfl rfl (any_of HT_.out (by kernel_rfl)) (fun _ _ _ h => h) (Or.inl ⟨by rfl, ?_⟩) ?_ ?_
    rotate_left
    · intro w_
      go_simp
      try with_reducible rfl
    rotate_left
    · simp only [Act.put, List.setIfInBounds_toArray, List.set_cons_zero, List.set_cons_succ, i64_w, i32_w]
      rfl
    refine pure_ (i := 22) (N := (some 44)) (v := ?_) (a' := ?_) #[true, true, true, true, true, true, true, true, true, true, true, true, true, true, true, true, true, true, true, true, true, true, true, false, false] rfl rfl (any_of HT_.out (by kernel_rfl)) (fun _ _ _ h => h) (Or.inl ⟨by rfl, ?_⟩) ?_ ?_
    rotate_left
    · intro w_
      go_simp
      try with_reducible rfl
    rotate_left
    · simp only [Act.put, List.setIfInBounds_toArray, List.set_cons_zero, List.set_cons_succ, i64_w, i32_w]
      rfl
    refine pure_ (i := 23) (N := (some 45)) (v := ?_) (a' := ?_) #[true, true, true, true, true, true, true, true, true, true, true, true, true, true, true, true, true, true, true, true, true, true, true, true, false] rfl rfl (any_of HT_.out (by kernel_rfl)) (fun _ _ _ h => h) (Or.inl ⟨by rfl, ?_⟩) ?_ ?_
    rotate_left
    · intro w_
      go_simp
      try with_reducible rfl
    rotate_left
    · simp only [Act.put, List.setIfInBounds_toArray, List.set_cons_zero, List.set_cons_succ, i64_w, i32_w]
      rfl
    refine pure_ (i := 24) (N := (some 2)) (v := ?_) (a' := ?_) #[true, true, true, true, true, true, true, true, true, true, true, true, true, true, true, true, true, true, true, true, true, true, true, true, true] rfl rfl (any_of HT_.out (by kernel_rfl)) (fun _ _ _ h => h) (Or.inl ⟨by rfl, ?_⟩) ?_ ?_
    rotate_left
    · intro w_
      go_simp
      try with_reducible rfl
    rotate_left
    · simp only [Act.put, List.setIfInBounds_toArray, List.set_cons_zero, List.set_cons_succ, i64_w, i32_w]
      rfl
    refine done_ (done_of HT_.out (by kernel_rfl)) ?_
    go_wp2
    go_ret
    exact ⟨rfl, HB.out⟩
end Go.Proofs.Ytahjpeihekphcaa.S
