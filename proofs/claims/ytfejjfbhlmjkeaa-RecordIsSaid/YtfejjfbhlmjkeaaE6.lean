/- What the reference writes of labels and of entries. -/
import Derived.Test.YtfejjfbhlmjkeaaE4
import Derived.Test.YtfejjfbhlmjkeaaE2b
import Derived.Test.YtfejjfbhlmjkeaaNB11
import Derived.Test.YtfejjfbhlmjkeaaReg
set_option linter.unusedVariables false
set_option linter.unusedSimpArgs false
namespace Go.Proofs.Ytfejjfbhlmjkeaa.C
open Go.RowKit Go.Proofs.YtfejjfbhlmjkeaaW.PrintWords Go.Proofs.YtfejjfbhlmjkeaaW.PrintLast Go.Proofs.YtfejjfbhlmjkeaaW.PrintMore Go.Proofs.Ytfejjfbhlmjkeaa.B Go.Proofs.Ytfejjfbhlmjkeaa.Reg Go.Proofs.Ytfejjfbhlmjkeaa.PRecordIs Go.Proofs.Ytfejjfbhlmjkeaa.CQ Go.Proofs.Ytfejjfbhlmjkeaa.Vi Go.Proofs.Ytfejjfbhlmjkeaa.N Go.Proofs.Ytfejjfbhlmjkeaa.Bt

theorem str_app (l m : List UInt8) : str l ++ str m = str (l ++ m) := by
  rw [← str_data (str l ++ str m), str_append, data_str]
theorem txt_any (s : ByteArray) (w : World) (hs : s.size ≤ 100000) : Calls Try.prog 64 #[.string s] w fun e w' => e = .returned (.string (str (txt s))) ∧ Below w.heap.size w w' := refText s w (by omega)
def T_magpieref04_Stream_5 : Bool × List (List Nat × List Nat) := (true, [([], []), ([], []), ([1], [1]), ([2], [2]), ([0, 3], [0, 3]), ([], []), ([5], [5]), ([6, 3], [6]), ([4, 7], [4, 7]), ([8, 7, 0, 1, 2, 3, 4, 5, 6, 7, 8], [0, 8])])
def B_magpieref04_Stream_5 : List Nat := [0, 0, 2, 6, 15, 0, 32, 110, 255, 511]
theorem tab_magpieref04_Stream_5 : rtab .any (opsOf Try.f36 5) = T_magpieref04_Stream_5 := by kernel_rfl
theorem bits_magpieref04_Stream_5 : waitsOk T_magpieref04_Stream_5.2 B_magpieref04_Stream_5 = true := by kernel_rfl
set_option maxRecDepth 20000 in
set_option maxHeartbeats 2000000 in
theorem refStream_any (x : Ent) (w : World) (hx : x.In w) (hs : Short x.ls) :
    Calls Try.prog 36 #[x.val] w fun e w' => e = .returned (.string (str (putB x.ls))) ∧ Below w.heap.size w w' := by
  obtain ⟨W, hW⟩ : ∃ W, W = w.alloc (.cells #[.int .i64 x.at_, .slice x.A x.ls.length x.c, .string x.line] 34) := ⟨_, rfl⟩
  obtain ⟨j, hj⟩ : ∃ j, j = w.heap.size := ⟨_, rfl⟩
  have HBo : Aside0 (Below w.heap.size w W) := ⟨by rw [hW]; exact below_alloc (Below.refl _ w) _⟩
  have XA : Aside0 (BoxE W j x) := ⟨by rw [hW, hj]; exact Go.heap_alloc_new w _⟩
  have HK := Aside0.mk (Kd.C_below hx.lies HBo.out)
  have HSh := Aside0.mk hs
  have hu : IntKind.u64.wrap (x.ls.length : Int) = (x.ls.length : Int) := by rw [u64_wrap]; have := hs.1; omega
  have HU := Aside0.mk (fun V => refUint x.ls.length V (by have := hs.1; omega))
  have HW := Aside0.mk hW
  have HJ := Aside0.mk hj
  clear hx hs hW hj
  unfold Ent.val
  go_enter Try.func36, Try.ntmps36
  go_wp2_with fail
  try rw [← HW.out]
  try rw [← HJ.out]
  clear HW HJ
  ((refine (HU.out _).mono ?_); rintro e w1 ⟨rfl, hb1⟩)
  have HBo := Aside0.mk (below_step HBo.out hb1)
  have XA := Aside0.mk (XA.out.below hb1)
  have HK := Aside0.mk (Kd.C_below HK.out hb1)
  have a1 : w1.cell? _ = _ := XA.out.c1
  clear hb1 HU hu
  go_wp2
  clear a1
  go_loopw [3, 14] (fun t3 t14 wr => ∃ (i : Nat), i ≤ x.ls.length ∧ t3 = .string (str (vint x.ls.length ++ labB (x.ls.take i))) ∧ t14 = .int .i64 (i : Int) ∧ Aside0 (Below w1.heap.size w1 wr)) (fun _ t14 _ => x.ls.length - (intOf t14).toNat)
  case atStart => exact ⟨0, Nat.zero_le _, by rw [show labB (x.ls.take 0) = [] from rfl, List.append_nil], rfl, ⟨Below.refl _ _⟩⟩
  case round =>
    obtain ⟨i, hi, rfl, rfl, HB⟩ := hrel
    by_cases hlt : i < x.ls.length
    · have d1 : decide (i < x.ls.length) = true := decide_eq_true hlt
      obtain ⟨ad, hA, k0, k1⟩ := at_T47 (Kd.C_below HK.out HB.out) (i : Int) (by omega) (by omega)
      have a1 := (XA.out.below HB.out).c1
      rw [hA] at a1 ⊢
      rw [Int.toNat_natCast] at k0 k1
      rw [at47 hlt] at k0 k1
      have HT := Aside0.mk (labB_take x.ls i hlt)
      have HSx := Aside0.mk (HSh.out.2 x.ls[i] (List.getElem_mem hlt))
      obtain ⟨y, hye⟩ : ∃ y, y = x.ls[i] := ⟨_, rfl⟩
      rw [← hye] at k0 k1 HT HSx
      obtain ⟨y0, y1⟩ := y
      clear hye
      dsimp only at k0 k1 HT HSx
      obtain ⟨l', hl'⟩ : ∃ l', l' = vint x.ls.length ++ labB (x.ls.take i) := ⟨_, rfl⟩
      have HL' : Aside0 (l'.length ≤ 300000000) := ⟨by
        have h1 := take_len x.ls HSh.out i
        have h2 := vint_le10 (n := x.ls.length) (by have := HSh.out.1; omega)
        rw [hl', List.length_append]; omega⟩
      have HT2 : Aside0 (vint x.ls.length ++ labB (x.ls.take (i + 1)) = l' ++ txt y0 ++ txt y1) := ⟨by rw [HT.out, hl']; simp only [List.append_assoc]⟩
      rw [← hl']
      obtain ⟨p, hp⟩ : ∃ p, p = str l' := ⟨_, rfl⟩
      obtain ⟨p0, hp0⟩ : ∃ p, p = str (txt y0) := ⟨_, rfl⟩
      obtain ⟨p1, hp1⟩ : ∃ p, p = str (txt y1) := ⟨_, rfl⟩
      have HP : Aside0 (p ++ p0 ++ p1 = str (vint x.ls.length ++ labB (x.ls.take (i + 1)))) := ⟨by rw [hp, hp0, hp1, HT2.out, str_app, str_app]⟩
      have z0 : ¬ 9223372036854775807 < p.size + p0.size := by
        rw [hp, hp0, str_size, str_size]; have := HL'.out; have := txt_len HSx.out.1; omega
      have z1 : ¬ 9223372036854775807 < (p ++ p0).size + p1.size := by
        rw [ByteArray.size_append, hp, hp0, hp1, str_size, str_size, str_size]; have := HL'.out; have := txt_len HSx.out.1; have := txt_len HSx.out.2; omega
      have z2 : ¬ 9223372036854775807 < p.size + p0.size + p1.size := by rw [ByteArray.size_append] at z1; exact z1
      rw [← hp]
      have H0 : Aside0 (∀ V, Calls Try.prog 64 #[.string y0] V fun e w' => e = .returned (.string p0) ∧ Below V.heap.size V w') := ⟨fun V => by rw [hp0]; exact txt_any y0 V HSx.out.1⟩
      have H1 : Aside0 (∀ V, Calls Try.prog 64 #[.string y1] V fun e w' => e = .returned (.string p1) ∧ Below V.heap.size V w') := ⟨fun V => by rw [hp1]; exact txt_any y1 V HSx.out.2⟩
      obtain ⟨W, hW⟩ : ∃ W, W = wr.alloc (.cells #[.string y0, .string y1] 47) := ⟨_, rfl⟩
      obtain ⟨jl, hjl⟩ : ∃ j, j = wr.heap.size := ⟨_, rfl⟩
      have X0 : Aside0 (W.heap[jl]? = some (.cells #[.string y0, .string y1] 47)) := ⟨by rw [hW, hjl]; exact Go.heap_alloc_new _ _⟩
      have HBw : Aside0 (Below w1.heap.size w1 W) := ⟨by rw [hW]; exact below_alloc HB.out _⟩
      have HW := Aside0.mk hW
      have HJ := Aside0.mk hjl
      have Hlt := Aside0.mk hlt
      clear hp hp0 hp1 hW hjl HB hi HT hl'
      go_wp2_with fail
      try rw [← HW.out]
      try rw [← HJ.out]
      clear HW HJ a1
      have HB : Aside0 (Below W.heap.size W W) := ⟨Below.refl _ _⟩
      refine start_ (n := 10) (S := fun x_ => Below W.heap.size W x_) (ds := []) #[false, false, false, false, false, false, false, false, false, false] (by kernel_rfl) rfl rfl (pw_below_drewN (Below.refl _ _) 1) (fun hHeld => ?_)
      refine with_tabW tab_magpieref04_Stream_5 bits_magpieref04_Stream_5 (fun HT_ HW_ => ?_)
      have HB := Aside0.mk (pw_below_drewN HB.out 1)
      change Aside0 (Below _ _ (World.drew W)) at HB
      change Below _ _ (World.drew W) at hHeld
      have hSz : (World.drew W).heap.size = W.heap.size := rfl
      have X0 := Aside0.mk (show (World.drew W).heap[jl]? = _ from X0.out)
      refine wpAnyLast_str (S' := fun x_ => Below (World.drew W).heap.size (World.drew W) x_) (fun x_ hx_ => below_step hHeld hx_) (Below.refl _ _) ?_
      clear hHeld hSz
      generalize World.drew W = Wd at *
      have HS := Aside0.mk (Below.refl Wd.heap.size Wd)
      refine pure_ (i := 0) (N := (some 18)) (v := ?_) (a' := ?_) #[true, false, false, false, false, false, false, false, false, false] rfl rfl (any_of HT_.out (by kernel_rfl)) (fun _ _ _ h => h) (Or.inl ⟨by rfl, ?_⟩) ?_ ?_
      rotate_left
      · intro w_
        go_simp
        try with_reducible rfl
      rotate_left
      · simp only [Act.put, List.setIfInBounds_toArray, List.set_cons_zero, List.set_cons_succ, i64_w, i32_w]
        rfl
      refine pure_ (i := 1) (N := (some 19)) (v := ?_) (a' := ?_) #[true, true, false, false, false, false, false, false, false, false] rfl rfl (any_of HT_.out (by kernel_rfl)) (fun _ _ _ h => h) (Or.inl ⟨by rfl, ?_⟩) ?_ ?_
      rotate_left
      · intro w_
        go_simp
        try with_reducible rfl
      rotate_left
      · simp only [Act.put, List.setIfInBounds_toArray, List.set_cons_zero, List.set_cons_succ, i64_w, i32_w]
        rfl
      refine pure_ (i := 5) (N := (some 23)) (v := ?_) (a' := ?_) #[true, true, false, false, false, true, false, false, false, false] rfl rfl (any_of HT_.out (by kernel_rfl)) (fun _ _ _ h => h) (Or.inl ⟨by rfl, ?_⟩) ?_ ?_
      rotate_left
      · intro w_
        go_simp
        try with_reducible rfl
      rotate_left
      · simp only [Act.put, List.setIfInBounds_toArray, List.set_cons_zero, List.set_cons_succ, i64_w, i32_w]
        rfl
      refine take_ (i := 2) (N := (some 20)) (v := ?_) (a' := ?_) #[true, true, true, false, false, true, false, false, false, false] rfl rfl (take_ofW HT_.out HW_.out (by kernel_rfl)) (fun _ _ _ h => h) (Or.inl ⟨by rfl, ?_⟩) (Below.refl _ _) ?_ ?_
      rotate_left
      · intro Wx hWx
        have hc := (blk_cell (heap_below hWx X0.out) 0).trans rfl
        go_simp
        try with_reducible rfl
      rotate_left
      · simp only [Act.put, List.setIfInBounds_toArray, List.set_cons_zero, List.set_cons_succ, i64_w, i32_w]
        rfl
      refine take_ (i := 6) (N := (some 24)) (v := ?_) (a' := ?_) #[true, true, true, false, false, true, true, false, false, false] rfl rfl (take_ofW HT_.out HW_.out (by kernel_rfl)) (fun _ _ _ h => h) (Or.inl ⟨by rfl, ?_⟩) (Below.refl _ _) ?_ ?_
      rotate_left
      · intro Wx hWx
        have hc := (blk_cell (heap_below hWx X0.out) 1).trans rfl
        go_simp
        try with_reducible rfl
      rotate_left
      · simp only [Act.put, List.setIfInBounds_toArray, List.set_cons_zero, List.set_cons_succ, i64_w, i32_w]
        rfl
      refine one_ (i := 3) (N := (some 21)) #[true, true, true, true, false, true, true, false, false, false] rfl rfl (one_of HT_.out (by kernel_rfl)) (by decide) (fun K hK => ?_)
      refine goes_ Try.func64 (by kernel_rfl) rfl #[.string y0] (by rfl) rfl rfl (by (try simp only [List.map_toArray, List.map_cons, List.map_nil]); first | done | rfl) ?_
      refine (H0.out _).mono ?_
      rintro e w5_3 ⟨rfl, hb_1⟩
      refine ⟨_, rfl, ?_⟩
      have hb_ : Below Wd.heap.size Wd w5_3 := hb_1
      have HB := Aside0.mk (below_step HB.out hb_)
      refine hK.out _ _ hb_ (fun hHeld => ?_)
      clear hK K
      refine wpAnyLast_str (S' := fun x_ => Below w5_3.heap.size w5_3 x_) (fun x_ hx_ => below_step hHeld hx_) (Below.refl _ _) ?_
      clear hHeld
      (try clear hb)
      clear hb_
      have HS := Aside0.mk (Below.refl w5_3.heap.size w5_3)
      refine norm_ (a' := ?_) ?_ ?_
      rotate_left
      · show Act.put _ (some 21) _ = _
        simp only [Act.put, List.setIfInBounds_toArray, List.set_cons_zero, List.set_cons_succ, i64_w, i32_w]
        rfl
      refine pure_ (i := 4) (N := (some 22)) (v := ?_) (a' := ?_) #[true, true, true, true, true, true, true, false, false, false] rfl rfl (any_of HT_.out (by kernel_rfl)) (fun _ _ _ h => h) (Or.inl ⟨by rfl, ?_⟩) ?_ ?_
      rotate_left
      · intro w_
        go_simp
        try with_reducible rfl
      rotate_left
      · simp only [Act.put, List.setIfInBounds_toArray, List.set_cons_zero, List.set_cons_succ, i64_w, i32_w]
        rfl
      refine one_ (i := 7) (N := (some 25)) #[true, true, true, true, true, true, true, true, false, false] rfl rfl (one_of HT_.out (by kernel_rfl)) (by decide) (fun K hK => ?_)
      refine goes_ Try.func64 (by kernel_rfl) rfl #[.string y1] (by rfl) rfl rfl (by (try simp only [List.map_toArray, List.map_cons, List.map_nil]); first | done | rfl) ?_
      refine (H1.out _).mono ?_
      rintro e w5_7 ⟨rfl, hb_1⟩
      refine ⟨_, rfl, ?_⟩
      have hb_ : Below w5_3.heap.size w5_3 w5_7 := hb_1
      have HB := Aside0.mk (below_step HB.out hb_)
      refine hK.out _ _ hb_ (fun hHeld => ?_)
      clear hK K
      refine wpAnyLast_str (S' := fun x_ => Below w5_7.heap.size w5_7 x_) (fun x_ hx_ => below_step hHeld hx_) (Below.refl _ _) ?_
      clear hHeld
      (try clear hb)
      clear hb_
      have HS := Aside0.mk (Below.refl w5_7.heap.size w5_7)
      refine norm_ (a' := ?_) ?_ ?_
      rotate_left
      · show Act.put _ (some 25) _ = _
        simp only [Act.put, List.setIfInBounds_toArray, List.set_cons_zero, List.set_cons_succ, i64_w, i32_w]
        rfl
      refine pure_ (i := 8) (N := (some 26)) (v := ?_) (a' := ?_) #[true, true, true, true, true, true, true, true, true, false] rfl rfl (any_of HT_.out (by kernel_rfl)) (fun _ _ _ h => h) (Or.inl ⟨by rfl, ?_⟩) ?_ ?_
      rotate_left
      · intro w_
        go_simp
        try with_reducible rfl
      rotate_left
      · simp only [Act.put, List.setIfInBounds_toArray, List.set_cons_zero, List.set_cons_succ, i64_w, i32_w]
        rfl
      refine pure_ (i := 9) (N := (some 3)) (v := ?_) (a' := ?_) #[true, true, true, true, true, true, true, true, true, true] rfl rfl (any_of HT_.out (by kernel_rfl)) (fun _ _ _ h => h) (Or.inl ⟨by rfl, ?_⟩) ?_ ?_
      rotate_left
      · intro w_
        go_simp
        try with_reducible rfl
      rotate_left
      · simp only [Act.put, List.setIfInBounds_toArray, List.set_cons_zero, List.set_cons_succ, i64_w, i32_w]
        rfl
      refine done_ (done_of HT_.out (by kernel_rfl)) ?_
      go_wp2_with fail
      go_roundw
      case rel => exact ⟨i + 1, by have := Hlt.out; omega, by rw [← HP.out], by rw [w64_in _ (by have := Hlt.out; have := HSh.out.1; omega)]; rfl, ⟨below_step HBw.out HB.out⟩⟩
      case measure => have h1 := Hlt.out; have h2 := HSh.out.1; rw [w64_in _ (by omega)]; simp [intOf]; omega
    · have d1 : decide (i < x.ls.length) = false := decide_eq_false hlt
      have HF : Aside0 (vint x.ls.length ++ labB (x.ls.take i) = putB x.ls) := ⟨by rw [show i = x.ls.length by omega, List.take_length]; rfl⟩
      rw [HF.out]
      clear hlt hi
      go_wp2
      go_ret
      exact ⟨rfl, below_step HBo.out HB.out⟩
end Go.Proofs.Ytfejjfbhlmjkeaa.C
