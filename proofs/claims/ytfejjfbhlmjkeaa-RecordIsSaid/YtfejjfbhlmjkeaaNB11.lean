/- What the reference of layer 1 writes. -/
import Derived.Test.YtfejjfbhlmjkeaaCZ
import Derived.Test.YtfejjfbhlmjkeaaReg
set_option linter.unusedVariables false
set_option linter.unusedSimpArgs false
namespace Go.Proofs.Ytfejjfbhlmjkeaa.N
open Go.RowKit Go.Proofs.YtfejjfbhlmjkeaaW.PrintWords Go.Proofs.YtfejjfbhlmjkeaaW.PrintLast Go.Proofs.Ytfejjfbhlmjkeaa.Bt Go.Proofs.Ytfejjfbhlmjkeaa.B Go.Proofs.Ytfejjfbhlmjkeaa.Vi Go.Proofs.Ytfejjfbhlmjkeaa.Reg

theorem str_of {w : World} {base : Nat} {v : Value} {l : List UInt8} (h : Own w base 5 v (cs l)) : (convert 52 9 v).run Try.prog w = .ok (.string (str l)) w :=
  run_str Try.underlying52 Try.underlying5 Try.underlying9 h
theorem str_append (l : List UInt8) (s : ByteArray) : (str l ++ s).data.toList = l ++ s.data.toList := by
  rw [ByteArray.data_append, Array.toList_append]
  rfl
/-- A row that is written out. -/
theorem own_row (W : World) (base : Nat) (e : TypeId) (l : List UInt8) (hl : l.length ≤ maxLen) (hb : base ≤ W.heap.size) :
    Own (W.alloc (.cells (cs l).toArray e)) base e (.slice (some ⟨W.heap.size, 0, none⟩) l.length l.length) (cs l) :=
  .inr ⟨W.heap.size, l.length, _, _, by rw [cs_length], hb, Go.heap_alloc_new W _, .inr rfl, by simp [cs_length], hl, by simp [cs_length], by simp⟩
theorem str_row (W : World) (x : Int) (b : UInt8) (h : Value.int .u8 x = bv b) : (convert 52 9 (.slice (some ⟨W.heap.size, 0, none⟩) 1 1)).run Try.prog (W.alloc (.cells #[.int .u8 x] 5)) = .ok (.string (str [b])) (W.alloc (.cells #[.int .u8 x] 5)) := by
  have h1 := str_of (own_row W W.heap.size 5 [b] (by simp [maxLen]) (Nat.le_refl _))
  rw [h]
  exact h1
theorem high_add {n : Nat} : Value.int .u8 (IntKind.u8.wrap (IntKind.u8.wrap (Int.tmod (n : Int) 128) + 128)) = bv (UInt8.ofNat (n % 128 + 128)) := by
  have e : Int.tmod (n : Int) 128 = ((n % 128 : Nat) : Int) := by rw [Int.tmod_eq_emod_of_nonneg (by omega)]; omega
  rw [e, IntKind.wrap_u8, IntKind.wrap_u8]
  unfold bv
  rw [UInt8.toNat_ofNat']
  congr 1
  omega
theorem own_high (W : World) (n : Nat) (q : UInt8) (hq : q = UInt8.ofNat (n % 128 + 128)) : Own (W.alloc (.cells #[.int .u8 (IntKind.u8.wrap (IntKind.u8.wrap (Int.tmod (n : Int) 128) + 128))] 5)) W.heap.size 5 (.slice (some ⟨W.heap.size, 0, none⟩) 1 1) (cs [q]) := by
  rw [high_add, ← hq]
  exact own_row W W.heap.size 5 [_] (by simp [maxLen]) (Nat.le_refl _)
def T_magpieref01_Uint_3 : Bool × List (List Nat × List Nat) := (true, [([], []), ([0], [0]), ([1], [1]), ([2], [2]), ([3], [3]), ([4], [4]), ([], []), ([6], [6]), ([7], [7]), ([5, 8], [5, 8]), ([9, 8, 0, 1, 2, 3, 4, 5, 6, 7, 8, 9], [9])])
def B_magpieref01_Uint_3 : List Nat := [0, 1, 3, 7, 15, 31, 0, 64, 192, 511, 1023]
theorem tab_magpieref01_Uint_3 : rtab .any (opsOf Try.f63 3) = T_magpieref01_Uint_3 := by kernel_rfl
theorem bits_magpieref01_Uint_3 : waitsOk T_magpieref01_Uint_3.2 B_magpieref01_Uint_3 = true := by kernel_rfl
set_option maxRecDepth 20000 in
set_option maxHeartbeats 1000000 in
theorem refUint : ∀ (n : Nat) (w : World), n < 18446744073709551616 → Calls Try.prog 63 #[.int .u64 (n : Int)] w fun e w' => e = .returned (.string (str (vint n))) ∧ Below w.heap.size w w' := by
  intro n
  induction n using Nat.strongRecOn with
  | _ n ih =>
    intro w hn
    by_cases h : n < 128
    · have c0 : decide (n < 128) = true := decide_eq_true h
      have c1 : decide ((n : Int) < 128) = true := decide_eq_true (by omega)
      have hs := str_row w ((n : Int) % 256) (UInt8.ofNat n) (low_cell h)
      rw [← vint_small h] at hs
      clear ih h hn
      go_enter Try.func63, Try.ntmps63
      go_wp2_with fail
      go_ret
      exact ⟨rfl, below_alloc (Below.refl _ _) _⟩
    · have c0 : decide (n < 128) = false := decide_eq_false h
      have c1 : decide ((n : Int) < 128) = false := decide_eq_false (by omega)
      have e2 : IntKind.u64.wrap ((n : Int) / 128) = ((n / 128 : Nat) : Int) := by rw [u64_wrap]; omega
      have hr : Aside0 (∀ W, Calls Try.prog 63 #[.int .u64 (IntKind.u64.wrap ((n : Int) / 128))] W fun e w' => e = .returned (.string (str (vint (n / 128)))) ∧ Below W.heap.size W w') := ⟨fun W => by
        rw [e2]
        exact ih (n / 128) (by omega) W (by omega)⟩
      obtain ⟨q, hq⟩ : ∃ q, q = UInt8.ofNat (n % 128 + 128) := ⟨_, rfl⟩
      have hadd : ¬ 9223372036854775807 < (str [q]).size + (str (vint (n / 128))).size := by
        have : (vint (n / 128)).length ≤ 10 := vint_le10 (by omega)
        rw [str_size, str_size]
        simp only [List.length_singleton]
        omega
      have hv : Aside0 (str [q] ++ str (vint (n / 128)) = str (vint n)) := ⟨by
        rw [vint_big h, ← hq]
        rw [← str_data (str [q] ++ str (vint (n / 128))), str_append, data_str]; rfl⟩
      have HB := Aside0.mk (Below.refl w.heap.size w)
      have Hq := Aside0.mk hq
      clear ih h hn e2 hq
      go_enter Try.func63, Try.ntmps63
      go_wp2_with fail
      refine start_ (n := 11) (S := fun x_ => Below w.heap.size w x_) (ds := []) #[false, false, false, false, false, false, false, false, false, false, false] (by kernel_rfl) rfl rfl (pw_below_drewN (Below.refl _ _) 1) (fun hHeld => ?_)
      refine with_tabW tab_magpieref01_Uint_3 bits_magpieref01_Uint_3 (fun HT_ HW_ => ?_)
      have HB := Aside0.mk (pw_below_drewN HB.out 1)
      change Aside0 (Below _ _ (World.drew w)) at HB
      change Below _ _ (World.drew w) at hHeld
      have hSz : (World.drew w).heap.size = w.heap.size := rfl
      refine wpAnyLast_str (S' := fun x_ => Below (World.drew w).heap.size (World.drew w) x_) (fun x_ hx_ => below_step hHeld hx_) (Below.refl _ _) ?_
      clear hHeld hSz
      generalize World.drew w = wd at *
      have HS := Aside0.mk (Below.refl wd.heap.size wd)
      refine pure_ (i := 0) (N := (some 9)) (v := ?_) (a' := ?_) #[true, false, false, false, false, false, false, false, false, false, false] rfl rfl (any_of HT_.out (by kernel_rfl)) (fun _ _ _ h => h) (Or.inl ⟨by rfl, ?_⟩) ?_ ?_
      rotate_left
      · intro w_
        go_simp
        try with_reducible rfl
      rotate_left
      · simp only [Act.put, List.setIfInBounds_toArray, List.set_cons_zero, List.set_cons_succ, i64_w, i32_w]
        rfl
      refine pure_ (i := 1) (N := (some 10)) (v := ?_) (a' := ?_) #[true, true, false, false, false, false, false, false, false, false, false] rfl rfl (any_of HT_.out (by kernel_rfl)) (fun _ _ _ h => h) (Or.inl ⟨by rfl, ?_⟩) ?_ ?_
      rotate_left
      · intro w_
        go_simp
        try with_reducible rfl
      rotate_left
      · simp only [Act.put, List.setIfInBounds_toArray, List.set_cons_zero, List.set_cons_succ, i64_w, i32_w]
        rfl
      refine pure_ (i := 2) (N := (some 11)) (v := ?_) (a' := ?_) #[true, true, true, false, false, false, false, false, false, false, false] rfl rfl (any_of HT_.out (by kernel_rfl)) (fun _ _ _ h => h) (Or.inl ⟨by rfl, ?_⟩) ?_ ?_
      rotate_left
      · intro w_
        go_simp
        try with_reducible rfl
      rotate_left
      · simp only [Act.put, List.setIfInBounds_toArray, List.set_cons_zero, List.set_cons_succ, i64_w, i32_w]
        rfl
      refine pure_ (i := 3) (N := (some 12)) (v := ?_) (a' := ?_) #[true, true, true, true, false, false, false, false, false, false, false] rfl rfl (any_of HT_.out (by kernel_rfl)) (fun _ _ _ h => h) (Or.inl ⟨by rfl, ?_⟩) ?_ ?_
      rotate_left
      · intro w_
        go_simp
        try with_reducible rfl
      rotate_left
      · simp only [Act.put, List.setIfInBounds_toArray, List.set_cons_zero, List.set_cons_succ, i64_w, i32_w]
        rfl
      refine pure_ (i := 6) (N := (some 15)) (v := ?_) (a' := ?_) #[true, true, true, true, false, false, true, false, false, false, false] rfl rfl (any_of HT_.out (by kernel_rfl)) (fun _ _ _ h => h) (Or.inl ⟨by rfl, ?_⟩) ?_ ?_
      rotate_left
      · intro w_
        go_simp
        try with_reducible rfl
      rotate_left
      · simp only [Act.put, List.setIfInBounds_toArray, List.set_cons_zero, List.set_cons_succ, i64_w, i32_w]
        rfl
      refine pure_ (i := 7) (N := (some 16)) (v := ?_) (a' := ?_) #[true, true, true, true, false, false, true, true, false, false, false] rfl rfl (any_of HT_.out (by kernel_rfl)) (fun _ _ _ h => h) (Or.inl ⟨by rfl, ?_⟩) ?_ ?_
      rotate_left
      · intro w_
        go_simp
        try with_reducible rfl
      rotate_left
      · simp only [Act.put, List.setIfInBounds_toArray, List.set_cons_zero, List.set_cons_succ, i64_w, i32_w]
        rfl
      refine two_ (i := 4) (j := 8) (Ni := (some 13)) (Nj := (some 17)) #[true, true, true, true, true, false, true, true, false, false, false] #[true, true, true, true, false, false, true, true, true, false, false] rfl rfl rfl rfl (two_of HT_.out (by kernel_rfl)) (by decide) (by decide) (fun K hK => ?_) (fun K hK => ?_)
      · skip
        refine value_ (w1 := ?_) (v := ?_) (by rfl) rfl ?_ ?_
        rotate_left 2
        · go_simp
          constructor
          · rfl
          · rfl
        have hb : Below wd.heap.size wd (wd.alloc (.cells #[.int .u8 (IntKind.u8.wrap (IntKind.u8.wrap (Int.tmod (n : Int) 128) + 128))] 5)) := below_alloc (Below.refl _ _) _
        have HO := Aside0.mk (own_high wd n q Hq.out)
        have hb_ : Below wd.heap.size wd (wd.alloc (.cells #[.int .u8 (IntKind.u8.wrap (IntKind.u8.wrap (Int.tmod (n : Int) 128) + 128))] 5)) := hb
        have HB := Aside0.mk (below_step HB.out hb_)
        refine hK.out _ _ hb_ (fun hHeld => ?_)
        clear hK K
        refine wpAnyLast_str (S' := fun x_ => Below (wd.alloc (.cells #[.int .u8 (IntKind.u8.wrap (IntKind.u8.wrap (Int.tmod (n : Int) 128) + 128))] 5)).heap.size (wd.alloc (.cells #[.int .u8 (IntKind.u8.wrap (IntKind.u8.wrap (Int.tmod (n : Int) 128) + 128))] 5)) x_) (fun x_ hx_ => below_step hHeld hx_) (Below.refl _ _) ?_
        clear hHeld
        (try clear hb)
        clear hb_
        generalize (wd.alloc (.cells #[.int .u8 (IntKind.u8.wrap (IntKind.u8.wrap (Int.tmod (n : Int) 128) + 128))] 5)) = w3_4 at *
        have HS := Aside0.mk (Below.refl w3_4.heap.size w3_4)
        refine norm_ (a' := ?_) ?_ ?_
        rotate_left
        · show Act.put _ (some 13) _ = _
          simp only [Act.put, List.setIfInBounds_toArray, List.set_cons_zero, List.set_cons_succ, i64_w, i32_w]
          rfl
        refine take_ (i := 5) (N := (some 14)) (v := ?_) (a' := ?_) #[true, true, true, true, true, true, true, true, false, false, false] rfl rfl (take_ofW HT_.out HW_.out (by kernel_rfl)) (fun _ _ _ h => h) (Or.inl ⟨by rfl, ?_⟩) (Below.refl _ _) ?_ ?_
        rotate_left
        · intro Wx hWx
          have hc := str_of (HO.out.below hWx)
          go_simp
          try with_reducible rfl
        rotate_left
        · simp only [Act.put, List.setIfInBounds_toArray, List.set_cons_zero, List.set_cons_succ, i64_w, i32_w]
          rfl
        refine one_ (i := 8) (N := (some 17)) #[true, true, true, true, true, true, true, true, true, false, false] rfl rfl (one_of HT_.out (by kernel_rfl)) (by decide) (fun K hK => ?_)
        refine goes_ Try.func63 (by kernel_rfl) rfl #[.int .u64 (IntKind.u64.wrap ((n : Int) / 128))] (by rfl) rfl rfl (by (try simp only [List.map_toArray, List.map_cons, List.map_nil]); first | done | rfl) ?_
        refine (hr.out _).mono ?_
        rintro e w3_8 ⟨rfl, hd⟩
        refine ⟨_, rfl, ?_⟩
        have hb_ : Below w3_4.heap.size w3_4 w3_8 := hd
        have HB := Aside0.mk (below_step HB.out hb_)
        refine hK.out _ _ hb_ (fun hHeld => ?_)
        clear hK K
        refine wpAnyLast_str (S' := fun x_ => Below w3_8.heap.size w3_8 x_) (fun x_ hx_ => below_step hHeld hx_) (Below.refl _ _) ?_
        clear hHeld
        (try clear hb)
        clear hb_
        have HS := Aside0.mk (Below.refl w3_8.heap.size w3_8)
        refine norm_ (a' := ?_) ?_ ?_
        rotate_left
        · show Act.put _ (some 17) _ = _
          simp only [Act.put, List.setIfInBounds_toArray, List.set_cons_zero, List.set_cons_succ, i64_w, i32_w]
          rfl
        refine pure_ (i := 9) (N := (some 18)) (v := ?_) (a' := ?_) #[true, true, true, true, true, true, true, true, true, true, false] rfl rfl (any_of HT_.out (by kernel_rfl)) (fun _ _ _ h => h) (Or.inl ⟨by rfl, ?_⟩) ?_ ?_
        rotate_left
        · intro w_
          go_simp
          try with_reducible rfl
        rotate_left
        · simp only [Act.put, List.setIfInBounds_toArray, List.set_cons_zero, List.set_cons_succ, i64_w, i32_w]
          rfl
        refine pure_ (i := 10) (N := (some 2)) (v := ?_) (a' := ?_) #[true, true, true, true, true, true, true, true, true, true, true] rfl rfl (any_of HT_.out (by kernel_rfl)) (fun _ _ _ h => h) (Or.inl ⟨by rfl, ?_⟩) ?_ ?_
        rotate_left
        · intro w_
          go_simp
          try with_reducible rfl
        rotate_left
        · simp only [Act.put, List.setIfInBounds_toArray, List.set_cons_zero, List.set_cons_succ, i64_w, i32_w]
          rfl
        refine done_ (done_of HT_.out (by kernel_rfl)) ?_
        rw [hv.out]
        go_wp2_with fail
        go_ret
        exact ⟨rfl, HB.out⟩
      · skip
        refine goes_ Try.func63 (by kernel_rfl) rfl #[.int .u64 (IntKind.u64.wrap ((n : Int) / 128))] (by rfl) rfl rfl (by (try simp only [List.map_toArray, List.map_cons, List.map_nil]); first | done | rfl) ?_
        refine (hr.out _).mono ?_
        rintro e w3_8 ⟨rfl, hd⟩
        refine ⟨_, rfl, ?_⟩
        have hb_ : Below wd.heap.size wd w3_8 := hd
        have HB := Aside0.mk (below_step HB.out hb_)
        refine hK.out _ _ hb_ (fun hHeld => ?_)
        clear hK K
        refine wpAnyLast_str (S' := fun x_ => Below w3_8.heap.size w3_8 x_) (fun x_ hx_ => below_step hHeld hx_) (Below.refl _ _) ?_
        clear hHeld
        (try clear hb)
        clear hb_
        have HS := Aside0.mk (Below.refl w3_8.heap.size w3_8)
        refine norm_ (a' := ?_) ?_ ?_
        rotate_left
        · show Act.put _ (some 17) _ = _
          simp only [Act.put, List.setIfInBounds_toArray, List.set_cons_zero, List.set_cons_succ, i64_w, i32_w]
          rfl
        refine one_ (i := 4) (N := (some 13)) #[true, true, true, true, true, false, true, true, true, false, false] rfl rfl (one_of HT_.out (by kernel_rfl)) (by decide) (fun K hK => ?_)
        refine value_ (w1 := ?_) (v := ?_) (by rfl) rfl ?_ ?_
        rotate_left 2
        · go_simp
          constructor
          · rfl
          · rfl
        have hb : Below w3_8.heap.size w3_8 (w3_8.alloc (.cells #[.int .u8 (IntKind.u8.wrap (IntKind.u8.wrap (Int.tmod (n : Int) 128) + 128))] 5)) := below_alloc (Below.refl _ _) _
        have HO := Aside0.mk (own_high w3_8 n q Hq.out)
        have hb_ : Below w3_8.heap.size w3_8 (w3_8.alloc (.cells #[.int .u8 (IntKind.u8.wrap (IntKind.u8.wrap (Int.tmod (n : Int) 128) + 128))] 5)) := hb
        have HB := Aside0.mk (below_step HB.out hb_)
        refine hK.out _ _ hb_ (fun hHeld => ?_)
        clear hK K
        refine wpAnyLast_str (S' := fun x_ => Below (w3_8.alloc (.cells #[.int .u8 (IntKind.u8.wrap (IntKind.u8.wrap (Int.tmod (n : Int) 128) + 128))] 5)).heap.size (w3_8.alloc (.cells #[.int .u8 (IntKind.u8.wrap (IntKind.u8.wrap (Int.tmod (n : Int) 128) + 128))] 5)) x_) (fun x_ hx_ => below_step hHeld hx_) (Below.refl _ _) ?_
        clear hHeld
        (try clear hb)
        clear hb_
        generalize (w3_8.alloc (.cells #[.int .u8 (IntKind.u8.wrap (IntKind.u8.wrap (Int.tmod (n : Int) 128) + 128))] 5)) = w3_4 at *
        have HS := Aside0.mk (Below.refl w3_4.heap.size w3_4)
        refine norm_ (a' := ?_) ?_ ?_
        rotate_left
        · show Act.put _ (some 13) _ = _
          simp only [Act.put, List.setIfInBounds_toArray, List.set_cons_zero, List.set_cons_succ, i64_w, i32_w]
          rfl
        refine take_ (i := 5) (N := (some 14)) (v := ?_) (a' := ?_) #[true, true, true, true, true, true, true, true, true, false, false] rfl rfl (take_ofW HT_.out HW_.out (by kernel_rfl)) (fun _ _ _ h => h) (Or.inl ⟨by rfl, ?_⟩) (Below.refl _ _) ?_ ?_
        rotate_left
        · intro Wx hWx
          have hc := str_of (HO.out.below hWx)
          go_simp
          try with_reducible rfl
        rotate_left
        · simp only [Act.put, List.setIfInBounds_toArray, List.set_cons_zero, List.set_cons_succ, i64_w, i32_w]
          rfl
        refine pure_ (i := 9) (N := (some 18)) (v := ?_) (a' := ?_) #[true, true, true, true, true, true, true, true, true, true, false] rfl rfl (any_of HT_.out (by kernel_rfl)) (fun _ _ _ h => h) (Or.inl ⟨by rfl, ?_⟩) ?_ ?_
        rotate_left
        · intro w_
          go_simp
          try with_reducible rfl
        rotate_left
        · simp only [Act.put, List.setIfInBounds_toArray, List.set_cons_zero, List.set_cons_succ, i64_w, i32_w]
          rfl
        refine pure_ (i := 10) (N := (some 2)) (v := ?_) (a' := ?_) #[true, true, true, true, true, true, true, true, true, true, true] rfl rfl (any_of HT_.out (by kernel_rfl)) (fun _ _ _ h => h) (Or.inl ⟨by rfl, ?_⟩) ?_ ?_
        rotate_left
        · intro w_
          go_simp
          try with_reducible rfl
        rotate_left
        · simp only [Act.put, List.setIfInBounds_toArray, List.set_cons_zero, List.set_cons_succ, i64_w, i32_w]
          rfl
        refine done_ (done_of HT_.out (by kernel_rfl)) ?_
        rw [hv.out]
        go_wp2_with fail
        go_ret
        exact ⟨rfl, HB.out⟩
theorem refUint_at {x : Int} (n : Nat) (w : World) (hx : x = (n : Int)) (hn : n < 18446744073709551616) : Calls Try.prog 63 #[.int .u64 x] w fun e w' => e = .returned (.string (str (vint n))) ∧ Below w.heap.size w w' := by
  subst hx
  exact refUint n w hn
theorem refInt (k : Int) (w : World) (h0 : -9223372036854775808 ≤ k) (h1 : k ≤ 9223372036854775807) : Calls Try.prog 67 #[.int .i64 k] w fun e w' => e = .returned (.string (str (vint (zig k)))) ∧ Below w.heap.size w w' := by
  have hz := zig_lt h0 h1
  by_cases h : k < 0
  · have c0 : decide (k < 0) = true := decide_eq_true h
    have hc := Aside0.mk (fun W => refUint_at (x := 2 * -(k + 1) + 1) (zig k) W (by unfold zig; rw [if_neg (by omega)]; omega) hz)
    go_enter Try.func67, Try.ntmps67
    go_wp2_with fail
    ((refine (hc.out _).mono ?_); rintro e w1 ⟨rfl, hb⟩)
    have HB := Aside0.mk hb
    clear hb hc
    go_wp2_with fail
    go_ret
    exact ⟨rfl, HB.out⟩
  · have c0 : decide (k < 0) = false := decide_eq_false h
    have hc := Aside0.mk (fun W => refUint_at (x := 2 * k) (zig k) W (by unfold zig; rw [if_pos (by omega)]; omega) hz)
    go_enter Try.func67, Try.ntmps67
    go_wp2_with fail
    ((refine (hc.out _).mono ?_); rintro e w1 ⟨rfl, hb⟩)
    have HB := Aside0.mk hb
    clear hb hc
    go_wp2_with fail
    go_ret
    exact ⟨rfl, HB.out⟩
theorem refText (s : ByteArray) (w : World) (hs : s.size ≤ 4611686018427) : Calls Try.prog 64 #[.string s] w fun e w' => e = .returned (.string (str (vint s.size ++ s.data.toList))) ∧ Below w.heap.size w w' := by
  have hc := Aside0.mk (fun W => refUint s.size W (by omega))
  have hadd : ¬ 9223372036854775807 < (str (vint s.size)).size + s.size := by
    have : (vint s.size).length ≤ 10 := vint_le10 (by omega)
    rw [str_size]
    omega
  have hv : str (vint s.size) ++ s = str (vint s.size ++ s.data.toList) := by
    rw [← str_data (str (vint s.size) ++ s), str_append]
  go_enter Try.func64, Try.ntmps64
  go_wp2_with fail
  ((refine (hc.out _).mono ?_); rintro e w1 ⟨rfl, hb⟩)
  have HB := Aside0.mk hb
  clear hb hc
  go_wp2_with fail
  go_ret
  exact ⟨rfl, HB.out⟩
end Go.Proofs.Ytfejjfbhlmjkeaa.N
