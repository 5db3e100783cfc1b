/- Texts of this claim (printed ones, too), put together by a program that left out what the claim does not use. -/
import Derived.Test.YtfejjfbhlmjkeaaRecordReads16
section
set_option linter.unusedVariables false
set_option linter.unusedSimpArgs false
namespace Go.Proofs.Ytfejjfbhlmjkeaa.N
open Go.RowKit Go.Proofs.YtfejjfbhlmjkeaaW.PrintWords Go.Proofs.YtfejjfbhlmjkeaaW.PrintLast Go.Proofs.Ytfejjfbhlmjkeaa.Bt Go.Proofs.Ytfejjfbhlmjkeaa.B Go.Proofs.Ytfejjfbhlmjkeaa.Vi Go.Proofs.Ytfejjfbhlmjkeaa.Reg
/-- The state of the reference's reader. -/
def MR (w : World) (mb : Nat) (S : ByteArray) : Option (List UInt8) → Prop
  | some l => ∃ p, Mx w mb S p false ∧ p ≤ S.size ∧ l = S.data.toList.drop p
  | none => ∃ p, Mx w mb S p true ∧ p ≤ S.size
theorem MR.kept {w w' : World} {mb : Nat} {S : ByteArray} {st : Option (List UInt8)} {row : Option Nat} (h : MR w mb S st) (hg : w.grownBy w' row) (hne : some mb ≠ row) : MR w' mb S st := by
  cases st with
  | none => obtain ⟨p, h1, h2⟩ := h; exact ⟨p, h1.kept hg hne, h2⟩
  | some l => obtain ⟨p, h1, h2⟩ := h; exact ⟨p, h1.kept hg hne, h2⟩
theorem MR.lt {w : World} {mb : Nat} {S : ByteArray} {st : Option (List UInt8)} (h : MR w mb S st) : mb < w.heap.size := by
  cases st with
  | none => obtain ⟨p, h1, h2⟩ := h; exact h1.lt
  | some l => obtain ⟨p, h1, h2⟩ := h; exact h1.lt
theorem mu (mb : Nat) (S : ByteArray) (st : Option (List UInt8)) (most : Nat) (w : World) (hs : S.size ≤ 4611686018427) (hm : most < 18446744073709551616) (h : MR w mb S st) :
    Calls Try.prog 73 #[.pointer (some ⟨mb, 0, none⟩), .int .u64 (most : Int)] w fun e w' => e = .returned (.int .u64 ((nxt most st).1 : Int)) ∧ MR w' mb S (nxt most st).2 ∧ w.grownBy w' (some mb) := by
  cases st with
  | none =>
    obtain ⟨p, h1, h2⟩ := h
    refine (muint_bad mb p S most w h1).mono ?_
    rintro e w' ⟨rfl, rfl⟩
    rw [nxt_none]
    exact ⟨rfl, ⟨p, h1, h2⟩, grown_refl w _⟩
  | some l =>
    obtain ⟨p, h1, h2, rfl⟩ := h
    refine (muint_good mb p S most w h1 h2 hs hm).mono ?_
    rintro e w' (⟨N, k, hn, hk, rfl, h3, h4⟩ | ⟨hn, rfl, h3, h4⟩)
    · rw [hn]
      exact ⟨rfl, ⟨p + k, h3, hk, rfl⟩, h4⟩
    · rw [hn]
      exact ⟨rfl, ⟨p, h3, h2⟩, h4⟩
theorem odd_val {n : Nat} (hn : n < 18446744073709551616) (h : n % 2 = 1) : wrap64 (wrap64 (-wrap64 (IntKind.u64.wrap ((n : Int) / 2))) - 1) = unzig n := by
  rw [u64_wrap]
  unfold unzig wrap64
  rw [if_neg (by omega)]
  omega
theorem even_val {n : Nat} (hn : n < 18446744073709551616) (h : ¬ n % 2 = 1) : wrap64 (IntKind.u64.wrap ((n : Int) / 2)) = unzig n := by
  rw [u64_wrap]
  unfold unzig wrap64
  rw [if_pos (by omega)]
  omega
set_option maxHeartbeats 400000 in
theorem mi (mb : Nat) (S : ByteArray) (st : Option (List UInt8)) (w : World) (hs : S.size ≤ 4611686018427) (h : MR w mb S st) :
    Calls Try.prog 72 #[.pointer (some ⟨mb, 0, none⟩)] w fun e w' => e = .returned (.int .i64 (unzig (nxt 18446744073709551615 st).1)) ∧ MR w' mb S (nxt 18446744073709551615 st).2 ∧ w.grownBy w' (some mb) := by
  have hc : Calls Try.prog 73 #[.pointer (some ⟨mb, 0, none⟩), .int .u64 18446744073709551615] w fun e w' => e = .returned (.int .u64 ((nxt 18446744073709551615 st).1 : Int)) ∧ MR w' mb S (nxt 18446744073709551615 st).2 ∧ w.grownBy w' (some mb) :=
    mu mb S st 18446744073709551615 w hs (by decide) h
  have hl := (nxt_lt 18446744073709551615 st).1
  obtain ⟨n, hn⟩ : ∃ n, n = (nxt 18446744073709551615 st).1 := ⟨_, rfl⟩
  rw [← hn] at hc hl ⊢
  have Hn : Aside0 (n < 18446744073709551616) := ⟨hl⟩
  have Hc := Aside0.mk hc
  clear hc hl hn h hs
  go_enter Try.func72, Try.ntmps72
  go_wp2_with fail
  ((with_reducible refine Hc.out.mono ?_); rintro e w2 ⟨rfl, h2, h3⟩)
  have H2 := Aside0.mk h2
  have H3 := Aside0.mk h3
  clear h2 h3 Hc
  by_cases hodd : n % 2 = 1
  · have d1 : ((n : Int) % 2 == 1) = true := by simpa using (by omega : (n : Int) % 2 = 1)
    go_wp2_with fail
    go_ret
    exact ⟨ret_int (odd_val Hn.out hodd), H2.out, H3.out⟩
  · have d1 : ((n : Int) % 2 == 1) = false := by simpa using (by omega : ¬ (n : Int) % 2 = 1)
    go_wp2_with fail
    go_ret
    exact ⟨ret_int (even_val Hn.out hodd), H2.out, H3.out⟩
theorem slice_mid {P : Program} {t : TypeId} {W : World} {S : ByteArray} {p n : Nat} (ht : P.underlying t = some .string) (hk : p + n ≤ S.size) :
    (Instr.slice t (.string S) (some (.int .i64 (p : Int))) (some (.int .i64 ((p : Int) + (n : Int)))) none).run P W = .ok (.string (str ((S.data.toList.drop p).take n))) W := by
  have h := run_slice_string (P := P) W t S .i64 .i64 (p : Int) ((p : Int) + (n : Int)) ht (by omega) (by omega) (by omega)
  rw [h, ← str_data (S.extract _ _), ByteArray.data_extract, Array.toList_extract]
  rw [show ((p : Int) + (n : Int)).toNat = p + n by omega, show ((p : Int)).toNat = p by omega]
  simp
def T_magpieref01_Reader_Text_2 : Bool × List (List Nat × List Nat) := (true, [([], []), ([0], [0]), ([1], [1]), ([2], [2]), ([3], [3]), ([4], [4]), ([4], [4]), ([6, 4], [4, 6]), ([7, 4], [4, 7]), ([8, 4], [4, 8]), ([9, 4], [4, 9]), ([4], [4]), ([11, 4], [4, 11]), ([12, 4], [4, 12]), ([13, 4], [4, 13]), ([10, 14, 4], [4, 10, 14]), ([15, 4], [4, 15]), ([5, 16, 4], [4, 5, 16]), ([4, 17], [4, 17])])
def B_magpieref01_Reader_Text_2 : List Nat := [0, 1, 3, 7, 15, 31, 31, 95, 223, 479, 991, 31, 2079, 6175, 14367, 32735, 65503, 131071, 262143]
theorem tab_magpieref01_Reader_Text_2 : rtab .any (opsOf Try.f74 2) = T_magpieref01_Reader_Text_2 := by kernel_rfl
theorem bits_magpieref01_Reader_Text_2 : waitsOk T_magpieref01_Reader_Text_2.2 B_magpieref01_Reader_Text_2 = true := by kernel_rfl
def T_magpieref01_Reader_Text_5 : Bool × List (List Nat × List Nat) := (true, [([], []), ([0], [0]), ([1], [1]), ([2], [2]), ([], []), ([4], [4]), ([5], [5]), ([6], [6]), ([], []), ([8], [8]), ([9], [9]), ([10], [10]), ([], []), ([12], [12]), ([11, 13], [11, 13]), ([3, 7, 14], [3, 7, 14]), ([15, 0, 1, 2, 3, 4, 5, 6, 7, 8, 9, 10, 11, 12, 13, 14, 15], [15])])
def B_magpieref01_Reader_Text_5 : List Nat := [0, 1, 3, 7, 0, 16, 48, 112, 0, 256, 768, 1792, 0, 4096, 16128, 32767, 65535]
theorem tab_magpieref01_Reader_Text_5 : rtab .any (opsOf Try.f74 5) = T_magpieref01_Reader_Text_5 := by kernel_rfl
theorem bits_magpieref01_Reader_Text_5 : waitsOk T_magpieref01_Reader_Text_5.2 B_magpieref01_Reader_Text_5 = true := by kernel_rfl
set_option maxRecDepth 20000 in
set_option maxHeartbeats 2000000 in
theorem mt_none (mb : Nat) (S : ByteArray) (n m : Nat) (most : Int) (w : World) (hm : max most 0 = (m : Int)) (hm2 : m ≤ 4611686018427) (hc : Calls Try.prog 73 #[.pointer (some ⟨mb, 0, none⟩), .int .u64 (m : Int)] w fun e w' => e = .returned (.int .u64 (n : Int)) ∧ MR w' mb S none ∧ w.grownBy w' (some mb)) :
    Calls Try.prog 74 #[.pointer (some ⟨mb, 0, none⟩), .int .i64 most] w fun e w' => e = .returned (.string ⟨#[]⟩) ∧ MR w' mb S none ∧ w.grownBy w' (some mb) := by
  have Hc := Aside0.mk hc
  clear hc
  go_enter Try.func74, Try.ntmps74
  go_wp2_with fail
  (refine (show Calls _ _ _ _ _ from Hc.out).mono ?_; rintro e w2 ⟨rfl, ⟨p, h2, hp⟩, h3⟩)
  have Hp := Aside0.mk hp
  clear hp
  have HM := Aside0.mk h2
  have HB := Aside0.mk h3
  clear h2 h3 Hc hm hm2
  go_wp2_with fail
  refine start_ (n := 19) (S := fun x_ => World.grownBy w2 x_ none) (ds := []) #[false, false, false, false, false, false, false, false, false, false, false, false, false, false, false, false, false, false, false] (by kernel_rfl) rfl rfl (grown_drewN (grown_refl _ none) 1) (fun hHeld => ?_)
  refine with_tabW tab_magpieref01_Reader_Text_2 bits_magpieref01_Reader_Text_2 (fun HT_ HW_ => ?_)
  have HB := Aside0.mk (grown_drewN HB.out 1)
  change Aside0 (World.grownBy _ (World.drew w2) _) at HB
  change World.grownBy _ (World.drew w2) _ at hHeld
  have hSz : (World.drew w2).heap.size = w2.heap.size := rfl
  have HM := Aside0.mk (show Mx (World.drew w2) mb S p true from HM.out)
  refine wpAnyLast_str (S' := fun x_ => World.grownBy (World.drew w2) x_ none) (fun x_ hx_ => World.grownBy.trans hHeld hx_) (grown_refl _ none) ?_
  clear hHeld hSz
  generalize World.drew w2 = w2d at *
  have HS := Aside0.mk (grown_refl w2d none)
  refine pure_ (i := 0) (N := (some 12)) (v := ?_) (a' := ?_) #[true, false, false, false, false, false, false, false, false, false, false, false, false, false, false, false, false, false, false] rfl rfl (any_of HT_.out (by kernel_rfl)) (fun _ _ _ h => h) (Or.inl ⟨by rfl, ?_⟩) ?_ ?_
  rotate_left
  · intro w_
    go_simp
    try with_reducible rfl
  rotate_left
  · simp only [Act.put, List.setIfInBounds_toArray, List.set_cons_zero, List.set_cons_succ, i64_w, i32_w]
    rfl
  refine pure_ (i := 1) (N := (some 13)) (v := ?_) (a' := ?_) #[true, true, false, false, false, false, false, false, false, false, false, false, false, false, false, false, false, false, false] rfl rfl (any_of HT_.out (by kernel_rfl)) (fun _ _ _ h => h) (Or.inl ⟨by rfl, ?_⟩) ?_ ?_
  rotate_left
  · intro w_
    go_simp
    try with_reducible rfl
  rotate_left
  · simp only [Act.put, List.setIfInBounds_toArray, List.set_cons_zero, List.set_cons_succ, i64_w, i32_w]
    rfl
  refine pure_ (i := 2) (N := (some 14)) (v := ?_) (a' := ?_) #[true, true, true, false, false, false, false, false, false, false, false, false, false, false, false, false, false, false, false] rfl rfl (any_of HT_.out (by kernel_rfl)) (fun _ _ _ h => h) (Or.inl ⟨by rfl, ?_⟩) ?_ ?_
  rotate_left
  · intro w_
    go_simp
    try with_reducible rfl
  rotate_left
  · simp only [Act.put, List.setIfInBounds_toArray, List.set_cons_zero, List.set_cons_succ, i64_w, i32_w]
    rfl
  refine take_ (i := 3) (N := (some 15)) (v := ?_) (a' := ?_) #[true, true, true, true, false, false, false, false, false, false, false, false, false, false, false, false, false, false, false] rfl rfl (take_ofW HT_.out HW_.out (by kernel_rfl)) (fun _ _ _ h => h) (Or.inl ⟨by rfl, ?_⟩) (grown_refl _ none) ?_ ?_
  rotate_left
  · intro Wx hWx
    have hc := (HM.out.kept hWx (by simp)).cell2
    go_simp
    try with_reducible rfl
  rotate_left
  · simp only [Act.put, List.setIfInBounds_toArray, List.set_cons_zero, List.set_cons_succ, i64_w, i32_w]
    rfl
  refine pure_ (i := 4) (N := (some 16)) (v := ?_) (a' := ?_) #[true, true, true, true, true, false, false, false, false, false, false, false, false, false, false, false, false, false, false] rfl rfl (any_of HT_.out (by kernel_rfl)) (fun _ _ _ h => h) (Or.inl ⟨by rfl, ?_⟩) ?_ ?_
  rotate_left
  · intro w_
    go_simp
    try with_reducible rfl
  rotate_left
  · simp only [Act.put, List.setIfInBounds_toArray, List.set_cons_zero, List.set_cons_succ, i64_w, i32_w]
    rfl
  refine pure_ (i := 5) (N := (some 17)) (v := undef) (a' := ?_) #[true, true, true, true, true, true, false, false, false, false, false, false, false, false, false, false, false, false, false] rfl rfl (any_of HT_.out (by kernel_rfl)) (fun _ _ _ h => h) (Or.inr ⟨by rfl, rfl⟩) ?_ ?_
  rotate_left
  · simp only [Act.put, List.setIfInBounds_toArray, List.set_cons_zero, List.set_cons_succ, i64_w, i32_w]
    rfl
  refine pure_ (i := 6) (N := (some 18)) (v := undef) (a' := ?_) #[true, true, true, true, true, true, true, false, false, false, false, false, false, false, false, false, false, false, false] rfl rfl (any_of HT_.out (by kernel_rfl)) (fun _ _ _ h => h) (Or.inr ⟨by rfl, rfl⟩) ?_ ?_
  rotate_left
  · simp only [Act.put, List.setIfInBounds_toArray, List.set_cons_zero, List.set_cons_succ, i64_w, i32_w]
    rfl
  refine pure_ (i := 7) (N := (some 19)) (v := undef) (a' := ?_) #[true, true, true, true, true, true, true, true, false, false, false, false, false, false, false, false, false, false, false] rfl rfl (any_of HT_.out (by kernel_rfl)) (fun _ _ _ h => h) (Or.inr ⟨by rfl, rfl⟩) ?_ ?_
  rotate_left
  · simp only [Act.put, List.setIfInBounds_toArray, List.set_cons_zero, List.set_cons_succ, i64_w, i32_w]
    rfl
  refine pure_ (i := 8) (N := (some 20)) (v := undef) (a' := ?_) #[true, true, true, true, true, true, true, true, true, false, false, false, false, false, false, false, false, false, false] rfl rfl (any_of HT_.out (by kernel_rfl)) (fun _ _ _ h => h) (Or.inr ⟨by rfl, rfl⟩) ?_ ?_
  rotate_left
  · simp only [Act.put, List.setIfInBounds_toArray, List.set_cons_zero, List.set_cons_succ, i64_w, i32_w]
    rfl
  refine pure_ (i := 9) (N := (some 21)) (v := undef) (a' := ?_) #[true, true, true, true, true, true, true, true, true, true, false, false, false, false, false, false, false, false, false] rfl rfl (any_of HT_.out (by kernel_rfl)) (fun _ _ _ h => h) (Or.inr ⟨by rfl, rfl⟩) ?_ ?_
  rotate_left
  · simp only [Act.put, List.setIfInBounds_toArray, List.set_cons_zero, List.set_cons_succ, i64_w, i32_w]
    rfl
  refine pure_ (i := 10) (N := (some 22)) (v := undef) (a' := ?_) #[true, true, true, true, true, true, true, true, true, true, true, false, false, false, false, false, false, false, false] rfl rfl (any_of HT_.out (by kernel_rfl)) (fun _ _ _ h => h) (Or.inr ⟨by rfl, rfl⟩) ?_ ?_
  rotate_left
  · simp only [Act.put, List.setIfInBounds_toArray, List.set_cons_zero, List.set_cons_succ, i64_w, i32_w]
    rfl
  refine pure_ (i := 11) (N := (some 23)) (v := undef) (a' := ?_) #[true, true, true, true, true, true, true, true, true, true, true, true, false, false, false, false, false, false, false] rfl rfl (any_of HT_.out (by kernel_rfl)) (fun _ _ _ h => h) (Or.inr ⟨by rfl, rfl⟩) ?_ ?_
  rotate_left
  · simp only [Act.put, List.setIfInBounds_toArray, List.set_cons_zero, List.set_cons_succ, i64_w, i32_w]
    rfl
  refine pure_ (i := 12) (N := (some 24)) (v := undef) (a' := ?_) #[true, true, true, true, true, true, true, true, true, true, true, true, true, false, false, false, false, false, false] rfl rfl (any_of HT_.out (by kernel_rfl)) (fun _ _ _ h => h) (Or.inr ⟨by rfl, rfl⟩) ?_ ?_
  rotate_left
  · simp only [Act.put, List.setIfInBounds_toArray, List.set_cons_zero, List.set_cons_succ, i64_w, i32_w]
    rfl
  refine pure_ (i := 13) (N := (some 25)) (v := undef) (a' := ?_) #[true, true, true, true, true, true, true, true, true, true, true, true, true, true, false, false, false, false, false] rfl rfl (any_of HT_.out (by kernel_rfl)) (fun _ _ _ h => h) (Or.inr ⟨by rfl, rfl⟩) ?_ ?_
  rotate_left
  · simp only [Act.put, List.setIfInBounds_toArray, List.set_cons_zero, List.set_cons_succ, i64_w, i32_w]
    rfl
  refine pure_ (i := 14) (N := (some 26)) (v := undef) (a' := ?_) #[true, true, true, true, true, true, true, true, true, true, true, true, true, true, true, false, false, false, false] rfl rfl (any_of HT_.out (by kernel_rfl)) (fun _ _ _ h => h) (Or.inr ⟨by rfl, rfl⟩) ?_ ?_
  rotate_left
  · simp only [Act.put, List.setIfInBounds_toArray, List.set_cons_zero, List.set_cons_succ, i64_w, i32_w]
    rfl
  refine pure_ (i := 15) (N := (some 27)) (v := undef) (a' := ?_) #[true, true, true, true, true, true, true, true, true, true, true, true, true, true, true, true, false, false, false] rfl rfl (any_of HT_.out (by kernel_rfl)) (fun _ _ _ h => h) (Or.inr ⟨by rfl, rfl⟩) ?_ ?_
  rotate_left
  · simp only [Act.put, List.setIfInBounds_toArray, List.set_cons_zero, List.set_cons_succ, i64_w, i32_w]
    rfl
  refine pure_ (i := 16) (N := (some 28)) (v := undef) (a' := ?_) #[true, true, true, true, true, true, true, true, true, true, true, true, true, true, true, true, true, false, false] rfl rfl (any_of HT_.out (by kernel_rfl)) (fun _ _ _ h => h) (Or.inr ⟨by rfl, rfl⟩) ?_ ?_
  rotate_left
  · simp only [Act.put, List.setIfInBounds_toArray, List.set_cons_zero, List.set_cons_succ, i64_w, i32_w]
    rfl
  refine pure_ (i := 17) (N := (some 29)) (v := undef) (a' := ?_) #[true, true, true, true, true, true, true, true, true, true, true, true, true, true, true, true, true, true, false] rfl rfl (any_of HT_.out (by kernel_rfl)) (fun _ _ _ h => h) (Or.inr ⟨by rfl, rfl⟩) ?_ ?_
  rotate_left
  · simp only [Act.put, List.setIfInBounds_toArray, List.set_cons_zero, List.set_cons_succ, i64_w, i32_w]
    rfl
  refine pure_ (i := 18) (N := (some 30)) (v := ?_) (a' := ?_) #[true, true, true, true, true, true, true, true, true, true, true, true, true, true, true, true, true, true, true] rfl rfl (any_of HT_.out (by kernel_rfl)) (fun _ _ _ h => h) (Or.inl ⟨by rfl, ?_⟩) ?_ ?_
  rotate_left
  · intro w_
    go_simp
    try with_reducible rfl
  rotate_left
  · simp only [Act.put, List.setIfInBounds_toArray, List.set_cons_zero, List.set_cons_succ, i64_w, i32_w]
    rfl
  refine done_ (done_of HT_.out (by kernel_rfl)) ?_
  have c2 := HM.out.cell2
  have f2 := HM.out.free 2
  have HM2 := Aside0.mk (HM.out.set2 true)
  have HB2 := Aside0.mk (World.grownBy.trans HB.out (grown_set _ mb 2 (.bool true)))
  clear HM HB
  go_wp2_with fail
  go_ret
  exact ⟨rfl, ⟨p, HM2.out, Hp.out⟩, HB2.out⟩
set_option maxRecDepth 20000 in
set_option maxHeartbeats 2000000 in
theorem mt_over (mb : Nat) (S : ByteArray) (r : List UInt8) (n m : Nat) (most : Int) (w : World) (hm : max most 0 = (m : Int)) (hm2 : m ≤ 4611686018427) (hs : S.size ≤ 4611686018427) (hlt : r.length < n) (hc : Calls Try.prog 73 #[.pointer (some ⟨mb, 0, none⟩), .int .u64 (m : Int)] w fun e w' => e = .returned (.int .u64 (n : Int)) ∧ MR w' mb S (some r) ∧ w.grownBy w' (some mb)) :
    Calls Try.prog 74 #[.pointer (some ⟨mb, 0, none⟩), .int .i64 most] w fun e w' => e = .returned (.string ⟨#[]⟩) ∧ MR w' mb S none ∧ w.grownBy w' (some mb) := by
  have HR := Aside0.mk (And.intro hs hlt)
  clear hs hlt
  have Hc := Aside0.mk hc
  clear hc
  go_enter Try.func74, Try.ntmps74
  go_wp2_with fail
  (refine (show Calls _ _ _ _ _ from Hc.out).mono ?_; rintro e w2 ⟨rfl, ⟨p, h2, hp, hr⟩, h3⟩)
  have hrl : r.length = S.size - p := by rw [hr, List.length_drop, data_length]
  obtain ⟨hs, hl⟩ := HR.out
  have d1 : decide (IntKind.u64.wrap (wrap64 ((S.size : Int) - (p : Int))) < (n : Int)) = true := by
    rw [u64_wrap]; unfold wrap64; exact decide_eq_true (by omega)
  have Hr := Aside0.mk (And.intro hr (And.intro hp (And.intro hrl (And.intro hl hs))))
  clear hr hp hrl hl hs
  have HM := Aside0.mk h2
  have HB := Aside0.mk h3
  clear h2 h3 Hc hm hm2
  go_wp2_with fail
  refine start_ (n := 19) (S := fun x_ => World.grownBy w2 x_ none) (ds := []) #[false, false, false, false, false, false, false, false, false, false, false, false, false, false, false, false, false, false, false] (by kernel_rfl) rfl rfl (grown_drewN (grown_refl _ none) 1) (fun hHeld => ?_)
  refine with_tabW tab_magpieref01_Reader_Text_2 bits_magpieref01_Reader_Text_2 (fun HT_ HW_ => ?_)
  have HB := Aside0.mk (grown_drewN HB.out 1)
  change Aside0 (World.grownBy _ (World.drew w2) _) at HB
  change World.grownBy _ (World.drew w2) _ at hHeld
  have hSz : (World.drew w2).heap.size = w2.heap.size := rfl
  have HM := Aside0.mk (show Mx (World.drew w2) mb S p false from HM.out)
  refine wpAnyLast_str (S' := fun x_ => World.grownBy (World.drew w2) x_ none) (fun x_ hx_ => World.grownBy.trans hHeld hx_) (grown_refl _ none) ?_
  clear hHeld hSz
  generalize World.drew w2 = w2d at *
  have HS := Aside0.mk (grown_refl w2d none)
  refine pure_ (i := 0) (N := (some 12)) (v := ?_) (a' := ?_) #[true, false, false, false, false, false, false, false, false, false, false, false, false, false, false, false, false, false, false] rfl rfl (any_of HT_.out (by kernel_rfl)) (fun _ _ _ h => h) (Or.inl ⟨by rfl, ?_⟩) ?_ ?_
  rotate_left
  · intro w_
    go_simp
    try with_reducible rfl
  rotate_left
  · simp only [Act.put, List.setIfInBounds_toArray, List.set_cons_zero, List.set_cons_succ, i64_w, i32_w]
    rfl
  refine pure_ (i := 1) (N := (some 13)) (v := ?_) (a' := ?_) #[true, true, false, false, false, false, false, false, false, false, false, false, false, false, false, false, false, false, false] rfl rfl (any_of HT_.out (by kernel_rfl)) (fun _ _ _ h => h) (Or.inl ⟨by rfl, ?_⟩) ?_ ?_
  rotate_left
  · intro w_
    go_simp
    try with_reducible rfl
  rotate_left
  · simp only [Act.put, List.setIfInBounds_toArray, List.set_cons_zero, List.set_cons_succ, i64_w, i32_w]
    rfl
  refine pure_ (i := 2) (N := (some 14)) (v := ?_) (a' := ?_) #[true, true, true, false, false, false, false, false, false, false, false, false, false, false, false, false, false, false, false] rfl rfl (any_of HT_.out (by kernel_rfl)) (fun _ _ _ h => h) (Or.inl ⟨by rfl, ?_⟩) ?_ ?_
  rotate_left
  · intro w_
    go_simp
    try with_reducible rfl
  rotate_left
  · simp only [Act.put, List.setIfInBounds_toArray, List.set_cons_zero, List.set_cons_succ, i64_w, i32_w]
    rfl
  refine take_ (i := 3) (N := (some 15)) (v := ?_) (a' := ?_) #[true, true, true, true, false, false, false, false, false, false, false, false, false, false, false, false, false, false, false] rfl rfl (take_ofW HT_.out HW_.out (by kernel_rfl)) (fun _ _ _ h => h) (Or.inl ⟨by rfl, ?_⟩) (grown_refl _ none) ?_ ?_
  rotate_left
  · intro Wx hWx
    have hc := (HM.out.kept hWx (by simp)).cell2
    go_simp
    try with_reducible rfl
  rotate_left
  · simp only [Act.put, List.setIfInBounds_toArray, List.set_cons_zero, List.set_cons_succ, i64_w, i32_w]
    rfl
  refine pure_ (i := 4) (N := (some 16)) (v := ?_) (a' := ?_) #[true, true, true, true, true, false, false, false, false, false, false, false, false, false, false, false, false, false, false] rfl rfl (any_of HT_.out (by kernel_rfl)) (fun _ _ _ h => h) (Or.inl ⟨by rfl, ?_⟩) ?_ ?_
  rotate_left
  · intro w_
    go_simp
    try with_reducible rfl
  rotate_left
  · simp only [Act.put, List.setIfInBounds_toArray, List.set_cons_zero, List.set_cons_succ, i64_w, i32_w]
    rfl
  refine pure_ (i := 5) (N := (some 17)) (v := ?_) (a' := ?_) #[true, true, true, true, true, true, false, false, false, false, false, false, false, false, false, false, false, false, false] rfl rfl (any_of HT_.out (by kernel_rfl)) (fun _ _ _ h => h) (Or.inl ⟨by rfl, ?_⟩) ?_ ?_
  rotate_left
  · intro w_
    go_simp
    try with_reducible rfl
  rotate_left
  · simp only [Act.put, List.setIfInBounds_toArray, List.set_cons_zero, List.set_cons_succ, i64_w, i32_w]
    rfl
  refine pure_ (i := 6) (N := (some 18)) (v := ?_) (a' := ?_) #[true, true, true, true, true, true, true, false, false, false, false, false, false, false, false, false, false, false, false] rfl rfl (any_of HT_.out (by kernel_rfl)) (fun _ _ _ h => h) (Or.inl ⟨by rfl, ?_⟩) ?_ ?_
  rotate_left
  · intro w_
    go_simp
    try with_reducible rfl
  rotate_left
  · simp only [Act.put, List.setIfInBounds_toArray, List.set_cons_zero, List.set_cons_succ, i64_w, i32_w]
    rfl
  refine pure_ (i := 7) (N := (some 19)) (v := ?_) (a' := ?_) #[true, true, true, true, true, true, true, true, false, false, false, false, false, false, false, false, false, false, false] rfl rfl (any_of HT_.out (by kernel_rfl)) (fun _ _ _ h => h) (Or.inl ⟨by rfl, ?_⟩) ?_ ?_
  rotate_left
  · intro w_
    go_simp
    try with_reducible rfl
  rotate_left
  · simp only [Act.put, List.setIfInBounds_toArray, List.set_cons_zero, List.set_cons_succ, i64_w, i32_w]
    rfl
  refine pure_ (i := 8) (N := (some 20)) (v := ?_) (a' := ?_) #[true, true, true, true, true, true, true, true, true, false, false, false, false, false, false, false, false, false, false] rfl rfl (any_of HT_.out (by kernel_rfl)) (fun _ _ _ h => h) (Or.inl ⟨by rfl, ?_⟩) ?_ ?_
  rotate_left
  · intro w_
    go_simp
    try with_reducible rfl
  rotate_left
  · simp only [Act.put, List.setIfInBounds_toArray, List.set_cons_zero, List.set_cons_succ, i64_w, i32_w]
    rfl
  refine pure_ (i := 11) (N := (some 23)) (v := ?_) (a' := ?_) #[true, true, true, true, true, true, true, true, true, false, false, true, false, false, false, false, false, false, false] rfl rfl (any_of HT_.out (by kernel_rfl)) (fun _ _ _ h => h) (Or.inl ⟨by rfl, ?_⟩) ?_ ?_
  rotate_left
  · intro w_
    go_simp
    try with_reducible rfl
  rotate_left
  · simp only [Act.put, List.setIfInBounds_toArray, List.set_cons_zero, List.set_cons_succ, i64_w, i32_w]
    rfl
  refine pure_ (i := 12) (N := (some 24)) (v := ?_) (a' := ?_) #[true, true, true, true, true, true, true, true, true, false, false, true, true, false, false, false, false, false, false] rfl rfl (any_of HT_.out (by kernel_rfl)) (fun _ _ _ h => h) (Or.inl ⟨by rfl, ?_⟩) ?_ ?_
  rotate_left
  · intro w_
    go_simp
    try with_reducible rfl
  rotate_left
  · simp only [Act.put, List.setIfInBounds_toArray, List.set_cons_zero, List.set_cons_succ, i64_w, i32_w]
    rfl
  refine pure_ (i := 13) (N := (some 25)) (v := ?_) (a' := ?_) #[true, true, true, true, true, true, true, true, true, false, false, true, true, true, false, false, false, false, false] rfl rfl (any_of HT_.out (by kernel_rfl)) (fun _ _ _ h => h) (Or.inl ⟨by rfl, ?_⟩) ?_ ?_
  rotate_left
  · intro w_
    go_simp
    try with_reducible rfl
  rotate_left
  · simp only [Act.put, List.setIfInBounds_toArray, List.set_cons_zero, List.set_cons_succ, i64_w, i32_w]
    rfl
  refine take_ (i := 9) (N := (some 21)) (v := ?_) (a' := ?_) #[true, true, true, true, true, true, true, true, true, true, false, true, true, true, false, false, false, false, false] rfl rfl (take_ofW HT_.out HW_.out (by kernel_rfl)) (fun _ _ _ h => h) (Or.inl ⟨by rfl, ?_⟩) (grown_refl _ none) ?_ ?_
  rotate_left
  · intro Wx hWx
    have hc := (HM.out.kept hWx (by simp)).cell0
    go_simp
    try with_reducible rfl
  rotate_left
  · simp only [Act.put, List.setIfInBounds_toArray, List.set_cons_zero, List.set_cons_succ, i64_w, i32_w]
    rfl
  refine pure_ (i := 10) (N := (some 22)) (v := ?_) (a' := ?_) #[true, true, true, true, true, true, true, true, true, true, true, true, true, true, false, false, false, false, false] rfl rfl (any_of HT_.out (by kernel_rfl)) (fun _ _ _ h => h) (Or.inl ⟨by rfl, ?_⟩) ?_ ?_
  rotate_left
  · intro w_
    go_simp
    try with_reducible rfl
  rotate_left
  · simp only [Act.put, List.setIfInBounds_toArray, List.set_cons_zero, List.set_cons_succ, i64_w, i32_w]
    rfl
  refine take_ (i := 14) (N := (some 26)) (v := ?_) (a' := ?_) #[true, true, true, true, true, true, true, true, true, true, true, true, true, true, true, false, false, false, false] rfl rfl (take_ofW HT_.out HW_.out (by kernel_rfl)) (fun _ _ _ h => h) (Or.inl ⟨by rfl, ?_⟩) (grown_refl _ none) ?_ ?_
  rotate_left
  · intro Wx hWx
    have hc := (HM.out.kept hWx (by simp)).cell1
    go_simp
    try with_reducible rfl
  rotate_left
  · simp only [Act.put, List.setIfInBounds_toArray, List.set_cons_zero, List.set_cons_succ, i64_w, i32_w]
    rfl
  refine pure_ (i := 15) (N := (some 27)) (v := ?_) (a' := ?_) #[true, true, true, true, true, true, true, true, true, true, true, true, true, true, true, true, false, false, false] rfl rfl (any_of HT_.out (by kernel_rfl)) (fun _ _ _ h => h) (Or.inl ⟨by rfl, ?_⟩) ?_ ?_
  rotate_left
  · intro w_
    go_simp
    try with_reducible rfl
  rotate_left
  · simp only [Act.put, List.setIfInBounds_toArray, List.set_cons_zero, List.set_cons_succ, i64_w, i32_w]
    rfl
  refine pure_ (i := 16) (N := (some 28)) (v := ?_) (a' := ?_) #[true, true, true, true, true, true, true, true, true, true, true, true, true, true, true, true, true, false, false] rfl rfl (any_of HT_.out (by kernel_rfl)) (fun _ _ _ h => h) (Or.inl ⟨by rfl, ?_⟩) ?_ ?_
  rotate_left
  · intro w_
    go_simp
    try with_reducible rfl
  rotate_left
  · simp only [Act.put, List.setIfInBounds_toArray, List.set_cons_zero, List.set_cons_succ, i64_w, i32_w]
    rfl
  refine pure_ (i := 17) (N := (some 29)) (v := ?_) (a' := ?_) #[true, true, true, true, true, true, true, true, true, true, true, true, true, true, true, true, true, true, false] rfl rfl (any_of HT_.out (by kernel_rfl)) (fun _ _ _ h => h) (Or.inl ⟨by rfl, ?_⟩) ?_ ?_
  rotate_left
  · intro w_
    go_simp
    try with_reducible rfl
  rotate_left
  · simp only [Act.put, List.setIfInBounds_toArray, List.set_cons_zero, List.set_cons_succ, i64_w, i32_w]
    rfl
  refine pure_ (i := 18) (N := (some 30)) (v := ?_) (a' := ?_) #[true, true, true, true, true, true, true, true, true, true, true, true, true, true, true, true, true, true, true] rfl rfl (any_of HT_.out (by kernel_rfl)) (fun _ _ _ h => h) (Or.inl ⟨by rfl, ?_⟩) ?_ ?_
  rotate_left
  · intro w_
    go_simp
    try with_reducible rfl
  rotate_left
  · simp only [Act.put, List.setIfInBounds_toArray, List.set_cons_zero, List.set_cons_succ, i64_w, i32_w]
    rfl
  refine done_ (done_of HT_.out (by kernel_rfl)) ?_
  have c2 := HM.out.cell2
  have f2 := HM.out.free 2
  have HM2 := Aside0.mk (HM.out.set2 true)
  have HB2 := Aside0.mk (World.grownBy.trans HB.out (grown_set _ mb 2 (.bool true)))
  clear HM HB
  go_wp2_with fail
  go_ret
  exact ⟨rfl, ⟨p, HM2.out, Hr.out.2.1⟩, HB2.out⟩
set_option maxRecDepth 20000 in
set_option maxHeartbeats 2000000 in
theorem mt_take (mb : Nat) (S : ByteArray) (r : List UInt8) (n m : Nat) (most : Int) (w : World) (hm : max most 0 = (m : Int)) (hm2 : m ≤ 4611686018427) (hs : S.size ≤ 4611686018427) (hle : n ≤ r.length) (hc : Calls Try.prog 73 #[.pointer (some ⟨mb, 0, none⟩), .int .u64 (m : Int)] w fun e w' => e = .returned (.int .u64 (n : Int)) ∧ MR w' mb S (some r) ∧ w.grownBy w' (some mb)) :
    Calls Try.prog 74 #[.pointer (some ⟨mb, 0, none⟩), .int .i64 most] w fun e w' => e = .returned (.string (str (r.take n))) ∧ MR w' mb S (some (r.drop n)) ∧ w.grownBy w' (some mb) := by
  have HR := Aside0.mk (And.intro hs hle)
  clear hs hle
  have Hc := Aside0.mk hc
  clear hc
  go_enter Try.func74, Try.ntmps74
  go_wp2_with fail
  (refine (show Calls _ _ _ _ _ from Hc.out).mono ?_; rintro e w2 ⟨rfl, ⟨p, h2, hp, hr⟩, h3⟩)
  have hrl : r.length = S.size - p := by rw [hr, List.length_drop, data_length]
  obtain ⟨hs, hl⟩ := HR.out
  have d1 : decide (IntKind.u64.wrap (wrap64 ((S.size : Int) - (p : Int))) < (n : Int)) = false := by
    rw [u64_wrap]; unfold wrap64; exact decide_eq_false (by omega)
  have hw1 : wrap64 (n : Int) = (n : Int) := by unfold wrap64; omega
  have hw2 : wrap64 ((p : Int) + (n : Int)) = (p : Int) + (n : Int) := by unfold wrap64; omega
  have hsl : ∀ W, (Instr.slice 9 (.string S) (some (.int .i64 (p : Int))) (some (.int .i64 ((p : Int) + (n : Int)))) none).run Try.prog W = .ok (.string (str (r.take n))) W := fun W => by rw [hr]; exact slice_mid Try.underlying9 (by omega)
  have Hr := Aside0.mk (And.intro hr (And.intro hp (And.intro hrl (And.intro hl hs))))
  clear hr hp hrl hl hs
  have HM := Aside0.mk h2
  have HB := Aside0.mk h3
  clear h2 h3 Hc hm hm2
  go_wp2_with fail
  refine start_ (n := 19) (S := fun x_ => World.grownBy w2 x_ none) (ds := []) #[false, false, false, false, false, false, false, false, false, false, false, false, false, false, false, false, false, false, false] (by kernel_rfl) rfl rfl (grown_drewN (grown_refl _ none) 1) (fun hHeld => ?_)
  refine with_tabW tab_magpieref01_Reader_Text_2 bits_magpieref01_Reader_Text_2 (fun HT_ HW_ => ?_)
  have HB := Aside0.mk (grown_drewN HB.out 1)
  change Aside0 (World.grownBy _ (World.drew w2) _) at HB
  change World.grownBy _ (World.drew w2) _ at hHeld
  have hSz : (World.drew w2).heap.size = w2.heap.size := rfl
  have HM := Aside0.mk (show Mx (World.drew w2) mb S p false from HM.out)
  refine wpAnyLast_str (S' := fun x_ => World.grownBy (World.drew w2) x_ none) (fun x_ hx_ => World.grownBy.trans hHeld hx_) (grown_refl _ none) ?_
  clear hHeld hSz
  generalize World.drew w2 = w2d at *
  have HS := Aside0.mk (grown_refl w2d none)
  refine pure_ (i := 0) (N := (some 12)) (v := ?_) (a' := ?_) #[true, false, false, false, false, false, false, false, false, false, false, false, false, false, false, false, false, false, false] rfl rfl (any_of HT_.out (by kernel_rfl)) (fun _ _ _ h => h) (Or.inl ⟨by rfl, ?_⟩) ?_ ?_
  rotate_left
  · intro w_
    go_simp
    try with_reducible rfl
  rotate_left
  · simp only [Act.put, List.setIfInBounds_toArray, List.set_cons_zero, List.set_cons_succ, i64_w, i32_w]
    rfl
  refine pure_ (i := 1) (N := (some 13)) (v := ?_) (a' := ?_) #[true, true, false, false, false, false, false, false, false, false, false, false, false, false, false, false, false, false, false] rfl rfl (any_of HT_.out (by kernel_rfl)) (fun _ _ _ h => h) (Or.inl ⟨by rfl, ?_⟩) ?_ ?_
  rotate_left
  · intro w_
    go_simp
    try with_reducible rfl
  rotate_left
  · simp only [Act.put, List.setIfInBounds_toArray, List.set_cons_zero, List.set_cons_succ, i64_w, i32_w]
    rfl
  refine pure_ (i := 2) (N := (some 14)) (v := ?_) (a' := ?_) #[true, true, true, false, false, false, false, false, false, false, false, false, false, false, false, false, false, false, false] rfl rfl (any_of HT_.out (by kernel_rfl)) (fun _ _ _ h => h) (Or.inl ⟨by rfl, ?_⟩) ?_ ?_
  rotate_left
  · intro w_
    go_simp
    try with_reducible rfl
  rotate_left
  · simp only [Act.put, List.setIfInBounds_toArray, List.set_cons_zero, List.set_cons_succ, i64_w, i32_w]
    rfl
  refine take_ (i := 3) (N := (some 15)) (v := ?_) (a' := ?_) #[true, true, true, true, false, false, false, false, false, false, false, false, false, false, false, false, false, false, false] rfl rfl (take_ofW HT_.out HW_.out (by kernel_rfl)) (fun _ _ _ h => h) (Or.inl ⟨by rfl, ?_⟩) (grown_refl _ none) ?_ ?_
  rotate_left
  · intro Wx hWx
    have hc := (HM.out.kept hWx (by simp)).cell2
    go_simp
    try with_reducible rfl
  rotate_left
  · simp only [Act.put, List.setIfInBounds_toArray, List.set_cons_zero, List.set_cons_succ, i64_w, i32_w]
    rfl
  refine pure_ (i := 4) (N := (some 16)) (v := ?_) (a' := ?_) #[true, true, true, true, true, false, false, false, false, false, false, false, false, false, false, false, false, false, false] rfl rfl (any_of HT_.out (by kernel_rfl)) (fun _ _ _ h => h) (Or.inl ⟨by rfl, ?_⟩) ?_ ?_
  rotate_left
  · intro w_
    go_simp
    try with_reducible rfl
  rotate_left
  · simp only [Act.put, List.setIfInBounds_toArray, List.set_cons_zero, List.set_cons_succ, i64_w, i32_w]
    rfl
  refine pure_ (i := 5) (N := (some 17)) (v := ?_) (a' := ?_) #[true, true, true, true, true, true, false, false, false, false, false, false, false, false, false, false, false, false, false] rfl rfl (any_of HT_.out (by kernel_rfl)) (fun _ _ _ h => h) (Or.inl ⟨by rfl, ?_⟩) ?_ ?_
  rotate_left
  · intro w_
    go_simp
    try with_reducible rfl
  rotate_left
  · simp only [Act.put, List.setIfInBounds_toArray, List.set_cons_zero, List.set_cons_succ, i64_w, i32_w]
    rfl
  refine pure_ (i := 6) (N := (some 18)) (v := ?_) (a' := ?_) #[true, true, true, true, true, true, true, false, false, false, false, false, false, false, false, false, false, false, false] rfl rfl (any_of HT_.out (by kernel_rfl)) (fun _ _ _ h => h) (Or.inl ⟨by rfl, ?_⟩) ?_ ?_
  rotate_left
  · intro w_
    go_simp
    try with_reducible rfl
  rotate_left
  · simp only [Act.put, List.setIfInBounds_toArray, List.set_cons_zero, List.set_cons_succ, i64_w, i32_w]
    rfl
  refine pure_ (i := 7) (N := (some 19)) (v := ?_) (a' := ?_) #[true, true, true, true, true, true, true, true, false, false, false, false, false, false, false, false, false, false, false] rfl rfl (any_of HT_.out (by kernel_rfl)) (fun _ _ _ h => h) (Or.inl ⟨by rfl, ?_⟩) ?_ ?_
  rotate_left
  · intro w_
    go_simp
    try with_reducible rfl
  rotate_left
  · simp only [Act.put, List.setIfInBounds_toArray, List.set_cons_zero, List.set_cons_succ, i64_w, i32_w]
    rfl
  refine pure_ (i := 8) (N := (some 20)) (v := ?_) (a' := ?_) #[true, true, true, true, true, true, true, true, true, false, false, false, false, false, false, false, false, false, false] rfl rfl (any_of HT_.out (by kernel_rfl)) (fun _ _ _ h => h) (Or.inl ⟨by rfl, ?_⟩) ?_ ?_
  rotate_left
  · intro w_
    go_simp
    try with_reducible rfl
  rotate_left
  · simp only [Act.put, List.setIfInBounds_toArray, List.set_cons_zero, List.set_cons_succ, i64_w, i32_w]
    rfl
  refine pure_ (i := 11) (N := (some 23)) (v := ?_) (a' := ?_) #[true, true, true, true, true, true, true, true, true, false, false, true, false, false, false, false, false, false, false] rfl rfl (any_of HT_.out (by kernel_rfl)) (fun _ _ _ h => h) (Or.inl ⟨by rfl, ?_⟩) ?_ ?_
  rotate_left
  · intro w_
    go_simp
    try with_reducible rfl
  rotate_left
  · simp only [Act.put, List.setIfInBounds_toArray, List.set_cons_zero, List.set_cons_succ, i64_w, i32_w]
    rfl
  refine pure_ (i := 12) (N := (some 24)) (v := ?_) (a' := ?_) #[true, true, true, true, true, true, true, true, true, false, false, true, true, false, false, false, false, false, false] rfl rfl (any_of HT_.out (by kernel_rfl)) (fun _ _ _ h => h) (Or.inl ⟨by rfl, ?_⟩) ?_ ?_
  rotate_left
  · intro w_
    go_simp
    try with_reducible rfl
  rotate_left
  · simp only [Act.put, List.setIfInBounds_toArray, List.set_cons_zero, List.set_cons_succ, i64_w, i32_w]
    rfl
  refine pure_ (i := 13) (N := (some 25)) (v := ?_) (a' := ?_) #[true, true, true, true, true, true, true, true, true, false, false, true, true, true, false, false, false, false, false] rfl rfl (any_of HT_.out (by kernel_rfl)) (fun _ _ _ h => h) (Or.inl ⟨by rfl, ?_⟩) ?_ ?_
  rotate_left
  · intro w_
    go_simp
    try with_reducible rfl
  rotate_left
  · simp only [Act.put, List.setIfInBounds_toArray, List.set_cons_zero, List.set_cons_succ, i64_w, i32_w]
    rfl
  refine take_ (i := 9) (N := (some 21)) (v := ?_) (a' := ?_) #[true, true, true, true, true, true, true, true, true, true, false, true, true, true, false, false, false, false, false] rfl rfl (take_ofW HT_.out HW_.out (by kernel_rfl)) (fun _ _ _ h => h) (Or.inl ⟨by rfl, ?_⟩) (grown_refl _ none) ?_ ?_
  rotate_left
  · intro Wx hWx
    have hc := (HM.out.kept hWx (by simp)).cell0
    go_simp
    try with_reducible rfl
  rotate_left
  · simp only [Act.put, List.setIfInBounds_toArray, List.set_cons_zero, List.set_cons_succ, i64_w, i32_w]
    rfl
  refine pure_ (i := 10) (N := (some 22)) (v := ?_) (a' := ?_) #[true, true, true, true, true, true, true, true, true, true, true, true, true, true, false, false, false, false, false] rfl rfl (any_of HT_.out (by kernel_rfl)) (fun _ _ _ h => h) (Or.inl ⟨by rfl, ?_⟩) ?_ ?_
  rotate_left
  · intro w_
    go_simp
    try with_reducible rfl
  rotate_left
  · simp only [Act.put, List.setIfInBounds_toArray, List.set_cons_zero, List.set_cons_succ, i64_w, i32_w]
    rfl
  refine take_ (i := 14) (N := (some 26)) (v := ?_) (a' := ?_) #[true, true, true, true, true, true, true, true, true, true, true, true, true, true, true, false, false, false, false] rfl rfl (take_ofW HT_.out HW_.out (by kernel_rfl)) (fun _ _ _ h => h) (Or.inl ⟨by rfl, ?_⟩) (grown_refl _ none) ?_ ?_
  rotate_left
  · intro Wx hWx
    have hc := (HM.out.kept hWx (by simp)).cell1
    go_simp
    try with_reducible rfl
  rotate_left
  · simp only [Act.put, List.setIfInBounds_toArray, List.set_cons_zero, List.set_cons_succ, i64_w, i32_w]
    rfl
  refine pure_ (i := 15) (N := (some 27)) (v := ?_) (a' := ?_) #[true, true, true, true, true, true, true, true, true, true, true, true, true, true, true, true, false, false, false] rfl rfl (any_of HT_.out (by kernel_rfl)) (fun _ _ _ h => h) (Or.inl ⟨by rfl, ?_⟩) ?_ ?_
  rotate_left
  · intro w_
    go_simp
    try with_reducible rfl
  rotate_left
  · simp only [Act.put, List.setIfInBounds_toArray, List.set_cons_zero, List.set_cons_succ, i64_w, i32_w]
    rfl
  refine pure_ (i := 16) (N := (some 28)) (v := ?_) (a' := ?_) #[true, true, true, true, true, true, true, true, true, true, true, true, true, true, true, true, true, false, false] rfl rfl (any_of HT_.out (by kernel_rfl)) (fun _ _ _ h => h) (Or.inl ⟨by rfl, ?_⟩) ?_ ?_
  rotate_left
  · intro w_
    go_simp
    try with_reducible rfl
  rotate_left
  · simp only [Act.put, List.setIfInBounds_toArray, List.set_cons_zero, List.set_cons_succ, i64_w, i32_w]
    rfl
  refine pure_ (i := 17) (N := (some 29)) (v := ?_) (a' := ?_) #[true, true, true, true, true, true, true, true, true, true, true, true, true, true, true, true, true, true, false] rfl rfl (any_of HT_.out (by kernel_rfl)) (fun _ _ _ h => h) (Or.inl ⟨by rfl, ?_⟩) ?_ ?_
  rotate_left
  · intro w_
    go_simp
    try with_reducible rfl
  rotate_left
  · simp only [Act.put, List.setIfInBounds_toArray, List.set_cons_zero, List.set_cons_succ, i64_w, i32_w]
    rfl
  refine pure_ (i := 18) (N := (some 30)) (v := ?_) (a' := ?_) #[true, true, true, true, true, true, true, true, true, true, true, true, true, true, true, true, true, true, true] rfl rfl (any_of HT_.out (by kernel_rfl)) (fun _ _ _ h => h) (Or.inl ⟨by rfl, ?_⟩) ?_ ?_
  rotate_left
  · intro w_
    go_simp
    try with_reducible rfl
  rotate_left
  · simp only [Act.put, List.setIfInBounds_toArray, List.set_cons_zero, List.set_cons_succ, i64_w, i32_w]
    rfl
  refine done_ (done_of HT_.out (by kernel_rfl)) ?_
  go_wp2_with fail
  refine start_ (n := 17) (S := fun x_ => World.grownBy w2d x_ none) (ds := []) #[false, false, false, false, false, false, false, false, false, false, false, false, false, false, false, false, false] (by kernel_rfl) rfl rfl (grown_drewN (grown_refl _ none) 1) (fun hHeld => ?_)
  refine with_tabW tab_magpieref01_Reader_Text_5 bits_magpieref01_Reader_Text_5 (fun HT_ HW_ => ?_)
  have HB := Aside0.mk (grown_drewN HB.out 1)
  change Aside0 (World.grownBy _ (World.drew w2d) _) at HB
  change World.grownBy _ (World.drew w2d) _ at hHeld
  have hSz : (World.drew w2d).heap.size = w2d.heap.size := rfl
  have HM := Aside0.mk (show Mx (World.drew w2d) mb S p false from HM.out)
  refine wpAnyLast_str (S' := fun x_ => World.grownBy (World.drew w2d) x_ none) (fun x_ hx_ => World.grownBy.trans hHeld hx_) (grown_refl _ none) ?_
  clear hHeld hSz
  generalize World.drew w2d = w2dd at *
  have HS := Aside0.mk (grown_refl w2dd none)
  refine pure_ (i := 0) (N := (some 34)) (v := ?_) (a' := ?_) #[true, false, false, false, false, false, false, false, false, false, false, false, false, false, false, false, false] rfl rfl (any_of HT_.out (by kernel_rfl)) (fun _ _ _ h => h) (Or.inl ⟨by rfl, ?_⟩) ?_ ?_
  rotate_left
  · intro w_
    go_simp
    try with_reducible rfl
  rotate_left
  · simp only [Act.put, List.setIfInBounds_toArray, List.set_cons_zero, List.set_cons_succ, i64_w, i32_w]
    rfl
  refine pure_ (i := 1) (N := (some 35)) (v := ?_) (a' := ?_) #[true, true, false, false, false, false, false, false, false, false, false, false, false, false, false, false, false] rfl rfl (any_of HT_.out (by kernel_rfl)) (fun _ _ _ h => h) (Or.inl ⟨by rfl, ?_⟩) ?_ ?_
  rotate_left
  · intro w_
    go_simp
    try with_reducible rfl
  rotate_left
  · simp only [Act.put, List.setIfInBounds_toArray, List.set_cons_zero, List.set_cons_succ, i64_w, i32_w]
    rfl
  refine pure_ (i := 2) (N := (some 36)) (v := ?_) (a' := ?_) #[true, true, true, false, false, false, false, false, false, false, false, false, false, false, false, false, false] rfl rfl (any_of HT_.out (by kernel_rfl)) (fun _ _ _ h => h) (Or.inl ⟨by rfl, ?_⟩) ?_ ?_
  rotate_left
  · intro w_
    go_simp
    try with_reducible rfl
  rotate_left
  · simp only [Act.put, List.setIfInBounds_toArray, List.set_cons_zero, List.set_cons_succ, i64_w, i32_w]
    rfl
  refine pure_ (i := 4) (N := (some 38)) (v := ?_) (a' := ?_) #[true, true, true, false, true, false, false, false, false, false, false, false, false, false, false, false, false] rfl rfl (any_of HT_.out (by kernel_rfl)) (fun _ _ _ h => h) (Or.inl ⟨by rfl, ?_⟩) ?_ ?_
  rotate_left
  · intro w_
    go_simp
    try with_reducible rfl
  rotate_left
  · simp only [Act.put, List.setIfInBounds_toArray, List.set_cons_zero, List.set_cons_succ, i64_w, i32_w]
    rfl
  refine pure_ (i := 5) (N := (some 39)) (v := ?_) (a' := ?_) #[true, true, true, false, true, true, false, false, false, false, false, false, false, false, false, false, false] rfl rfl (any_of HT_.out (by kernel_rfl)) (fun _ _ _ h => h) (Or.inl ⟨by rfl, ?_⟩) ?_ ?_
  rotate_left
  · intro w_
    go_simp
    try with_reducible rfl
  rotate_left
  · simp only [Act.put, List.setIfInBounds_toArray, List.set_cons_zero, List.set_cons_succ, i64_w, i32_w]
    rfl
  refine pure_ (i := 6) (N := (some 40)) (v := ?_) (a' := ?_) #[true, true, true, false, true, true, true, false, false, false, false, false, false, false, false, false, false] rfl rfl (any_of HT_.out (by kernel_rfl)) (fun _ _ _ h => h) (Or.inl ⟨by rfl, ?_⟩) ?_ ?_
  rotate_left
  · intro w_
    go_simp
    try with_reducible rfl
  rotate_left
  · simp only [Act.put, List.setIfInBounds_toArray, List.set_cons_zero, List.set_cons_succ, i64_w, i32_w]
    rfl
  refine pure_ (i := 8) (N := (some 42)) (v := ?_) (a' := ?_) #[true, true, true, false, true, true, true, false, true, false, false, false, false, false, false, false, false] rfl rfl (any_of HT_.out (by kernel_rfl)) (fun _ _ _ h => h) (Or.inl ⟨by rfl, ?_⟩) ?_ ?_
  rotate_left
  · intro w_
    go_simp
    try with_reducible rfl
  rotate_left
  · simp only [Act.put, List.setIfInBounds_toArray, List.set_cons_zero, List.set_cons_succ, i64_w, i32_w]
    rfl
  refine pure_ (i := 9) (N := (some 43)) (v := ?_) (a' := ?_) #[true, true, true, false, true, true, true, false, true, true, false, false, false, false, false, false, false] rfl rfl (any_of HT_.out (by kernel_rfl)) (fun _ _ _ h => h) (Or.inl ⟨by rfl, ?_⟩) ?_ ?_
  rotate_left
  · intro w_
    go_simp
    try with_reducible rfl
  rotate_left
  · simp only [Act.put, List.setIfInBounds_toArray, List.set_cons_zero, List.set_cons_succ, i64_w, i32_w]
    rfl
  refine pure_ (i := 10) (N := (some 44)) (v := ?_) (a' := ?_) #[true, true, true, false, true, true, true, false, true, true, true, false, false, false, false, false, false] rfl rfl (any_of HT_.out (by kernel_rfl)) (fun _ _ _ h => h) (Or.inl ⟨by rfl, ?_⟩) ?_ ?_
  rotate_left
  · intro w_
    go_simp
    try with_reducible rfl
  rotate_left
  · simp only [Act.put, List.setIfInBounds_toArray, List.set_cons_zero, List.set_cons_succ, i64_w, i32_w]
    rfl
  refine pure_ (i := 12) (N := (some 46)) (v := ?_) (a' := ?_) #[true, true, true, false, true, true, true, false, true, true, true, false, true, false, false, false, false] rfl rfl (any_of HT_.out (by kernel_rfl)) (fun _ _ _ h => h) (Or.inl ⟨by rfl, ?_⟩) ?_ ?_
  rotate_left
  · intro w_
    go_simp
    try with_reducible rfl
  rotate_left
  · simp only [Act.put, List.setIfInBounds_toArray, List.set_cons_zero, List.set_cons_succ, i64_w, i32_w]
    rfl
  refine pure_ (i := 13) (N := (some 47)) (v := ?_) (a' := ?_) #[true, true, true, false, true, true, true, false, true, true, true, false, true, true, false, false, false] rfl rfl (any_of HT_.out (by kernel_rfl)) (fun _ _ _ h => h) (Or.inl ⟨by rfl, ?_⟩) ?_ ?_
  rotate_left
  · intro w_
    go_simp
    try with_reducible rfl
  rotate_left
  · simp only [Act.put, List.setIfInBounds_toArray, List.set_cons_zero, List.set_cons_succ, i64_w, i32_w]
    rfl
  refine take_ (i := 3) (N := (some 37)) (v := ?_) (a' := ?_) #[true, true, true, true, true, true, true, false, true, true, true, false, true, true, false, false, false] rfl rfl (take_ofW HT_.out HW_.out (by kernel_rfl)) (fun _ _ _ h => h) (Or.inl ⟨by rfl, ?_⟩) (grown_refl _ none) ?_ ?_
  rotate_left
  · intro Wx hWx
    have hc := (HM.out.kept hWx (by simp)).cell0
    go_simp
    try with_reducible rfl
  rotate_left
  · simp only [Act.put, List.setIfInBounds_toArray, List.set_cons_zero, List.set_cons_succ, i64_w, i32_w]
    rfl
  refine take_ (i := 7) (N := (some 41)) (v := ?_) (a' := ?_) #[true, true, true, true, true, true, true, true, true, true, true, false, true, true, false, false, false] rfl rfl (take_ofW HT_.out HW_.out (by kernel_rfl)) (fun _ _ _ h => h) (Or.inl ⟨by rfl, ?_⟩) (grown_refl _ none) ?_ ?_
  rotate_left
  · intro Wx hWx
    have hc := (HM.out.kept hWx (by simp)).cell1
    go_simp
    try with_reducible rfl
  rotate_left
  · simp only [Act.put, List.setIfInBounds_toArray, List.set_cons_zero, List.set_cons_succ, i64_w, i32_w]
    rfl
  refine take_ (i := 11) (N := (some 45)) (v := ?_) (a' := ?_) #[true, true, true, true, true, true, true, true, true, true, true, true, true, true, false, false, false] rfl rfl (take_ofW HT_.out HW_.out (by kernel_rfl)) (fun _ _ _ h => h) (Or.inl ⟨by rfl, ?_⟩) (grown_refl _ none) ?_ ?_
  rotate_left
  · intro Wx hWx
    have hc := (HM.out.kept hWx (by simp)).cell1
    go_simp
    try with_reducible rfl
  rotate_left
  · simp only [Act.put, List.setIfInBounds_toArray, List.set_cons_zero, List.set_cons_succ, i64_w, i32_w]
    rfl
  refine pure_ (i := 14) (N := (some 48)) (v := ?_) (a' := ?_) #[true, true, true, true, true, true, true, true, true, true, true, true, true, true, true, false, false] rfl rfl (any_of HT_.out (by kernel_rfl)) (fun _ _ _ h => h) (Or.inl ⟨by rfl, ?_⟩) ?_ ?_
  rotate_left
  · intro w_
    go_simp
    try with_reducible rfl
  rotate_left
  · simp only [Act.put, List.setIfInBounds_toArray, List.set_cons_zero, List.set_cons_succ, i64_w, i32_w]
    rfl
  refine pure_ (i := 15) (N := (some 49)) (v := ?_) (a' := ?_) #[true, true, true, true, true, true, true, true, true, true, true, true, true, true, true, true, false] rfl rfl (any_of HT_.out (by kernel_rfl)) (fun _ _ _ h => h) (Or.inl ⟨by rfl, ?_⟩) ?_ ?_
  rotate_left
  · intro w_
    go_simp
    try with_reducible rfl
  rotate_left
  · simp only [Act.put, List.setIfInBounds_toArray, List.set_cons_zero, List.set_cons_succ, i64_w, i32_w]
    rfl
  refine pure_ (i := 16) (N := (some 6)) (v := ?_) (a' := ?_) #[true, true, true, true, true, true, true, true, true, true, true, true, true, true, true, true, true] rfl rfl (any_of HT_.out (by kernel_rfl)) (fun _ _ _ h => h) (Or.inl ⟨by rfl, ?_⟩) ?_ ?_
  rotate_left
  · intro w_
    go_simp
    try with_reducible rfl
  rotate_left
  · simp only [Act.put, List.setIfInBounds_toArray, List.set_cons_zero, List.set_cons_succ, i64_w, i32_w]
    rfl
  refine done_ (done_of HT_.out (by kernel_rfl)) ?_
  have c1 := HM.out.cell1
  have f1 := HM.out.free 1
  have HM2 : Aside0 (Mx _ mb S (p + n) false) := ⟨by
    have h := HM.out.set1 (p + n)
    rw [show ((p + n : Nat) : Int) = (p : Int) + (n : Int) by omega] at h
    exact h⟩
  have HB2 := Aside0.mk (World.grownBy.trans HB.out (grown_set _ mb 1 (.int .i64 ((p : Int) + (n : Int)))))
  clear HM HB hsl d1
  go_wp2_with fail
  go_ret
  exact ⟨rfl, ⟨p + n, HM2.out, by have := Hr.out; omega, by rw [Hr.out.1, List.drop_drop]⟩, HB2.out⟩
theorem mt (mb : Nat) (S : ByteArray) (st : Option (List UInt8)) (most : Int) (m : Nat) (w : World) (hm : max most 0 = (m : Int)) (hm2 : m ≤ 4611686018427) (hs : S.size ≤ 4611686018427) (h : MR w mb S st) :
    Calls Try.prog 74 #[.pointer (some ⟨mb, 0, none⟩), .int .i64 most] w fun e w' => e = .returned (.string (str (txt m st).1)) ∧ MR w' mb S (txt m st).2 ∧ w.grownBy w' (some mb) := by
  have hc := mu mb S st m w hs (by omega) h
  unfold txt
  cases hx : (nxt m st).2 with
  | none =>
    rw [hx] at hc
    exact mt_none mb S _ m most w hm hm2 hc
  | some r =>
    rw [hx] at hc
    simp only
    by_cases hlt : r.length < (nxt m st).1
    · rw [if_pos hlt]
      exact mt_over mb S r _ m most w hm hm2 hs hlt hc
    · rw [if_neg hlt]
      exact mt_take mb S r _ m most w hm hm2 hs (by omega) hc
end Go.Proofs.Ytfejjfbhlmjkeaa.N
end
