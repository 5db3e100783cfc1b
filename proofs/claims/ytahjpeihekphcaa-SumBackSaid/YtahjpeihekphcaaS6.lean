/- The walk of the law SumSeals. -/
import Derived.Test.YtahjpeihekphcaaS4
set_option linter.unusedVariables false
set_option linter.unusedSimpArgs false
namespace Go.Proofs.Ytahjpeihekphcaa.S
open Go.RowKit Go.Proofs.YtahjpeihekphcaaW.PrintWords Go.Proofs.YtahjpeihekphcaaW.PrintLast Go.Proofs.YtahjpeihekphcaaW.PrintMore Go.Proofs.Ytahjpeihekphcaa.Bt Go.Proofs.Ytahjpeihekphcaa.B Go.Proofs.Ytahjpeihekphcaa.Crc
open Go.Proofs.Ytahjpeihekphcaa.PSumIs Go.Proofs.Ytahjpeihekphcaa.Reg

theorem str_of {w : World} {base : Nat} {v : Value} {l : List UInt8} (h : Own w base 5 v (cs l)) : (convert 27 9 v).run Try.prog w = .ok (.string (str l)) w :=
  run_str Try.underlying27 Try.underlying5 Try.underlying9 h
/-- Two rows lie apart: what is written into the one leaves the other. -/
def Apart (v u : Value) : Prop := v.ownBlock = none ∨ v.ownBlock ≠ u.ownBlock
theorem Apart.symm {v u : Value} (h : Apart v u) : Apart u v := by
  unfold Apart at h ⊢
  cases hu : u.ownBlock with
  | none => exact .inl rfl
  | some k =>
    right
    intro e
    rcases h with h | h
    · rw [h] at e; cases e
    · exact h (by rw [hu, ← e])
theorem apart_new {W : World} {base : Nat} {e : TypeId} {v : Value} {xs : List Value} (h : Own W base e v xs) (n c : Nat) : Apart v (.slice (some ⟨W.heap.size, 0, none⟩) n c) := by
  right
  intro hk
  have := (h.lt _ hk).2
  simp only at this
  omega
theorem apart_seal {W : World} {base : Nat} {e : TypeId} {v v1 v2 : Value} {xs : List Value} (h : Own W base e v xs) (hn : Apart v v1) (hat : v2.ownBlock = v1.ownBlock ∨ ∃ b, v2.ownBlock = some b ∧ W.heap.size ≤ b) : Apart v v2 := by
  rcases hat with hat | ⟨b, hat, hb⟩
  · unfold Apart at hn ⊢
    rw [hat]
    exact hn
  · right
    intro hk
    rw [hat] at hk
    have := (h.lt _ hk).2
    omega
theorem seal_beq (a b : ByteArray) : ((str (seal_ a.data.toList)).toList == (str (seal_ b.data.toList)).toList) = (a.toList == b.toList) := by
  rw [toList_eq, toList_eq]
  by_cases h : a = b
  · subst h; simp
  · have : str (seal_ a.data.toList) ≠ str (seal_ b.data.toList) := fun e => h (list_ext (seal_inj (str_inj e)))
    rw [decide_eq_false h, decide_eq_false this]
theorem seal_extract (a : ByteArray) : (str (seal_ a.data.toList)).extract 0 a.size = a := by
  refine list_ext ?_
  rw [extract_list _ _ (by rw [str_size, seal_length, data_length]; omega), data_str]
  have : a.size = a.data.toList.length := (data_length a).symm
  rw [this]
  simp [seal_]
def T_magpielaw02_SumSeals_5 : Bool × List (List Nat × List Nat) := (true, [([], []), ([0], [0]), ([1], [1]), ([2], [2]), ([], []), ([4], [4]), ([5, 2], [5]), ([6], [6]), ([3, 6, 0, 1, 2, 3], [3]), ([7, 8, 0, 1, 2, 3, 4, 5, 6, 7, 8], [7])])
def B_magpielaw02_SumSeals_5 : List Nat := [0, 1, 3, 7, 0, 16, 55, 119, 127, 511]
theorem tab_magpielaw02_SumSeals_5 : rtab .any (opsOf Try.f5 5) = T_magpielaw02_SumSeals_5 := by kernel_rfl
theorem bits_magpielaw02_SumSeals_5 : waitsOk T_magpielaw02_SumSeals_5.2 B_magpielaw02_SumSeals_5 = true := by kernel_rfl
set_option maxHeartbeats 2000000 in
theorem sumSeals_walk (a0 a1 : ByteArray) (w : World) (w0 : a0.size ≤ 140737488351232) (w1 : a1.size ≤ 140737488351232) :
    Calls Try.prog 5 #[.string a0, .string a1] w fun e w' => e = .returned (.bool true) ∧ Below w.heap.size w w' := by
  by_cases hlen : 4096 < a0.size ∨ 4096 < a1.size
  · have c0 : (decide (4096 < (a0.size : Int)) || decide (4096 < (a1.size : Int))) = true := by
      rcases hlen with h | h
      · have : (4096 < (a0.size : Int)) := by omega
        simp [this]
      · have : (4096 < (a1.size : Int)) := by omega
        simp [this]
    go_enter Try.func5, Try.ntmps5
    go_wp2_with fail
    ((with_reducible refine (alive_any _).mono ?_); rintro e w1 ⟨rfl, hb⟩)
    have HB := Aside0.mk hb
    clear hb
    go_wp2
    all_goals (go_ret; exact ⟨rfl, HB.out⟩)
  · obtain ⟨h1, h2⟩ := not_or.1 hlen
    have c0 : decide (4096 < (a0.size : Int)) = false := decide_eq_false (by omega)
    have c1 : decide (4096 < (a1.size : Int)) = false := decide_eq_false (by omega)
    have kb := fun W => print_bytes (P := Try.prog) 9 27 5 Try.underlying9 Try.underlying27 Try.underlying5 a0 W
    have kc := fun W => print_bytes (P := Try.prog) 9 27 5 Try.underlying9 Try.underlying27 Try.underlying5 a1 W
    have hsm : Aside0 (a0.size ≤ 4096 ∧ a1.size ≤ 4096) := ⟨by omega⟩
    have hl0 : Aside0 (a0.data.toList.length ≤ 4611686018427) := ⟨by rw [data_length]; have := hsm.out.1; omega⟩
    have hl1 : Aside0 (a1.data.toList.length ≤ 4611686018427) := ⟨by rw [data_length]; have := hsm.out.2; omega⟩
    clear hlen w0 w1 h1 h2
    go_enter Try.func5, Try.ntmps5
    go_wp2_with fail
    ((with_reducible refine (alive_any _).mono ?_); rintro e w1 ⟨rfl, hb⟩)
    have HB := Aside0.mk hb
    clear hb
    go_wp2_with fail
    refine start_ (n := 10) (S := fun x_ => Below w1.heap.size w1 x_) (ds := []) #[false, false, false, false, false, false, false, false, false, false] (by kernel_rfl) rfl rfl (pw_below_drewN (Below.refl _ _) 1) (fun hHeld => ?_)
    refine with_tabW tab_magpielaw02_SumSeals_5 bits_magpielaw02_SumSeals_5 (fun HT_ HW_ => ?_)
    have HB := Aside0.mk (pw_below_drewN HB.out 1)
    change Aside0 (Below _ _ (World.drew w1)) at HB
    change Below _ _ (World.drew w1) at hHeld
    have hSz : (World.drew w1).heap.size = w1.heap.size := rfl
    refine wpAnyLast_str (S' := fun x_ => Below (World.drew w1).heap.size (World.drew w1) x_) (fun x_ hx_ => below_step hHeld hx_) (Below.refl _ _) ?_
    clear hHeld hSz
    generalize World.drew w1 = w1d at *
    have HS := Aside0.mk (Below.refl w1d.heap.size w1d)
    refine pure_ (i := 0) (N := (some 17)) (v := ?_) (a' := ?_) #[true, false, false, false, false, false, false, false, false, false] rfl rfl (any_of HT_.out (by kernel_rfl)) (fun _ _ _ h => h) (Or.inl ⟨by rfl, ?_⟩) ?_ ?_
    rotate_left
    · intro w_
      go_simp
      try with_reducible rfl
    rotate_left
    · simp only [Act.put, List.setIfInBounds_toArray, List.set_cons_zero, List.set_cons_succ, i64_w, i32_w]
      rfl
    refine pure_ (i := 4) (N := (some 21)) (v := ?_) (a' := ?_) #[true, false, false, false, true, false, false, false, false, false] rfl rfl (any_of HT_.out (by kernel_rfl)) (fun _ _ _ h => h) (Or.inl ⟨by rfl, ?_⟩) ?_ ?_
    rotate_left
    · intro w_
      go_simp
      try with_reducible rfl
    rotate_left
    · simp only [Act.put, List.setIfInBounds_toArray, List.set_cons_zero, List.set_cons_succ, i64_w, i32_w]
      rfl
    refine two_ (i := 1) (j := 5) (Ni := (some 18)) (Nj := (some 22)) #[true, true, false, false, true, false, false, false, false, false] #[true, false, false, false, true, true, false, false, false, false] rfl rfl rfl rfl (two_of HT_.out (by kernel_rfl)) (by decide) (by decide) (fun K hK => ?_) (fun K hK => ?_)
    · skip
      refine value_ (w1 := ?_) (v := ?_) (by rfl) rfl ?_ ?_
      rotate_left 2
      · go_simp
        constructor
        · rfl
        · rfl
      have hb : Below w1d.heap.size w1d (Lib.bytesWorld w1d 5 a0) := below_step HS.out (conv_below w1d 5 a0)
      have HO1 := Aside0.mk (own_conv w1d w1d.heap.size 5 a0 (by have := hsm.out.1; simp only [maxLen]; omega) HS.out.size)
      have hb_ : Below w1d.heap.size w1d (Lib.bytesWorld w1d 5 a0) := hb
      refine hK.out _ _ hb_ (fun hHeld => ?_)
      clear hK K
      clear hHeld
      (try clear hb)
      generalize (Lib.bytesWorld w1d 5 a0) = w5_1 at *
      have HS := Aside0.mk hb_
      clear hb_
      refine norm_ (a' := ?_) ?_ ?_
      rotate_left
      · show Act.put _ (some 18) _ = _
        simp only [Act.put, List.setIfInBounds_toArray, List.set_cons_zero, List.set_cons_succ, i64_w, i32_w]
        rfl
      refine two_ (i := 2) (j := 5) (Ni := (some 19)) (Nj := (some 22)) #[true, true, true, false, true, false, false, false, false, false] #[true, true, false, false, true, true, false, false, false, false] rfl rfl rfl rfl (two_of HT_.out (by kernel_rfl)) (by decide) (by decide) (fun K hK => ?_) (fun K hK => ?_)
      · skip
        refine goes_ Try.func18 (by kernel_rfl) rfl #[.slice (some ⟨_, 0, none⟩) a0.size _] (by rfl) rfl rfl (by (try simp only [List.map_toArray, List.map_cons, List.map_nil]); first | done | rfl) ?_
        refine (seal_any _ _ _ _ HO1.out HS.out.size hl0.out).mono ?_
        rintro e w5_2 ⟨v2, rfl, hO2, hg2, hat2⟩
        refine ⟨_, rfl, ?_⟩
        have HO2 := Aside0.mk hO2
        have hb_ : Below w1d.heap.size w1d w5_2 := own_grown HO1.out HS.out (Nat.le_refl _) HS.out.size hg2
        have HB := Aside0.mk (below_step HB.out hb_)
        refine hK.out _ _ hb_ (fun hHeld => ?_)
        clear hK K
        refine wpAnyLast_str (S' := fun x_ => Below w5_2.heap.size w5_2 x_) (fun x_ hx_ => below_step hHeld hx_) (Below.refl _ _) ?_
        clear hHeld
        (try clear hb)
        clear hb_
        have HS := Aside0.mk (Below.refl w5_2.heap.size w5_2)
        refine norm_ (a' := ?_) ?_ ?_
        rotate_left
        · show Act.put _ (some 19) _ = _
          simp only [Act.put, List.setIfInBounds_toArray, List.set_cons_zero, List.set_cons_succ, i64_w, i32_w]
          rfl
        refine take_ (i := 3) (N := (some 20)) (v := ?_) (a' := ?_) #[true, true, true, true, true, false, false, false, false, false] rfl rfl (take_ofW HT_.out HW_.out (by kernel_rfl)) (fun _ _ _ h => h) (Or.inl ⟨by rfl, ?_⟩) (Below.refl _ _) ?_ ?_
        rotate_left
        · intro Wx hWx
          have hc := str_of (HO2.out.below hWx)
          go_simp
          try with_reducible rfl
        rotate_left
        · simp only [Act.put, List.setIfInBounds_toArray, List.set_cons_zero, List.set_cons_succ, i64_w, i32_w]
          rfl
        refine one_ (i := 5) (N := (some 22)) #[true, true, true, true, true, true, false, false, false, false] rfl rfl (one_of HT_.out (by kernel_rfl)) (by decide) (fun K hK => ?_)
        refine value_ (w1 := ?_) (v := ?_) (by rfl) rfl ?_ ?_
        rotate_left 2
        · go_simp
          constructor
          · rfl
          · rfl
        have hb : Below w5_2.heap.size w5_2 (Lib.bytesWorld w5_2 5 a1) := below_step HS.out (conv_below w5_2 5 a1)
        have HO5 := Aside0.mk (own_conv w5_2 w5_2.heap.size 5 a1 (by have := hsm.out.2; simp only [maxLen]; omega) HS.out.size)
        have hb_ : Below w5_2.heap.size w5_2 (Lib.bytesWorld w5_2 5 a1) := hb
        refine hK.out _ _ hb_ (fun hHeld => ?_)
        clear hK K
        clear hHeld
        (try clear hb)
        generalize (Lib.bytesWorld w5_2 5 a1) = w5_5 at *
        have HS := Aside0.mk hb_
        clear hb_
        refine norm_ (a' := ?_) ?_ ?_
        rotate_left
        · show Act.put _ (some 22) _ = _
          simp only [Act.put, List.setIfInBounds_toArray, List.set_cons_zero, List.set_cons_succ, i64_w, i32_w]
          rfl
        refine one_ (i := 6) (N := (some 23)) #[true, true, true, true, true, true, true, false, false, false] rfl rfl (one_of HT_.out (by kernel_rfl)) (by decide) (fun K hK => ?_)
        refine goes_ Try.func18 (by kernel_rfl) rfl #[.slice (some ⟨_, 0, none⟩) a1.size _] (by rfl) rfl rfl (by (try simp only [List.map_toArray, List.map_cons, List.map_nil]); first | done | rfl) ?_
        refine (seal_any _ _ _ _ HO5.out HS.out.size hl1.out).mono ?_
        rintro e w5_6 ⟨v6, rfl, hO6, hg6, -⟩
        refine ⟨_, rfl, ?_⟩
        have HO6 := Aside0.mk hO6
        have hb_ : Below w5_2.heap.size w5_2 w5_6 := own_grown HO5.out HS.out (Nat.le_refl _) HS.out.size hg6
        have HB := Aside0.mk (below_step HB.out hb_)
        refine hK.out _ _ hb_ (fun hHeld => ?_)
        clear hK K
        refine wpAnyLast_str (S' := fun x_ => Below w5_6.heap.size w5_6 x_) (fun x_ hx_ => below_step hHeld hx_) (Below.refl _ _) ?_
        clear hHeld
        (try clear hb)
        clear hb_
        have HS := Aside0.mk (Below.refl w5_6.heap.size w5_6)
        refine norm_ (a' := ?_) ?_ ?_
        rotate_left
        · show Act.put _ (some 23) _ = _
          simp only [Act.put, List.setIfInBounds_toArray, List.set_cons_zero, List.set_cons_succ, i64_w, i32_w]
          rfl
        refine pure_ (i := 8) (N := (some 5)) (v := ?_) (a' := ?_) #[true, true, true, true, true, true, true, false, true, false] rfl rfl (any_of HT_.out (by kernel_rfl)) (fun _ _ _ h => h) (Or.inl ⟨by rfl, ?_⟩) ?_ ?_
        rotate_left
        · intro w_
          go_simp
          try with_reducible rfl
        rotate_left
        · simp only [Act.put, List.setIfInBounds_toArray, List.set_cons_zero, List.set_cons_succ, i64_w, i32_w]
          rfl
        refine take_ (i := 7) (N := (some 24)) (v := ?_) (a' := ?_) #[true, true, true, true, true, true, true, true, true, false] rfl rfl (take_ofW HT_.out HW_.out (by kernel_rfl)) (fun _ _ _ h => h) (Or.inl ⟨by rfl, ?_⟩) (Below.refl _ _) ?_ ?_
        rotate_left
        · intro Wx hWx
          have hc := str_of (HO6.out.below hWx)
          go_simp
          try with_reducible rfl
        rotate_left
        · simp only [Act.put, List.setIfInBounds_toArray, List.set_cons_zero, List.set_cons_succ, i64_w, i32_w]
          rfl
        refine pure_ (i := 9) (N := (some 6)) (v := ?_) (a' := ?_) #[true, true, true, true, true, true, true, true, true, true] rfl rfl (any_of HT_.out (by kernel_rfl)) (fun _ _ _ h => h) (Or.inl ⟨by rfl, ?_⟩) ?_ ?_
        rotate_left
        · intro w_
          go_simp
          try with_reducible rfl
        rotate_left
        · simp only [Act.put, List.setIfInBounds_toArray, List.set_cons_zero, List.set_cons_succ, i64_w, i32_w]
          rfl
        refine done_ (done_of HT_.out (by kernel_rfl)) ?_
        clear HO1 HO5 HO2 HO6 kb kc
        (try clear HF)
        (try clear hne)
        (try clear hne0)
        have e1 : ((str (seal_ a0.data.toList)).toList == (str (seal_ a1.data.toList)).toList) = (a0.toList == a1.toList) := seal_beq a0 a1
        have e2 : (str (seal_ a0.data.toList)).size = a0.size + 4 := by rw [str_size, seal_length, data_length]
        have e3 : (str (seal_ a0.data.toList)).extract 0 a0.size = a0 := seal_extract a0
        have hs0 := hsm.out.1
        go_wp2
        go_ret
        exact ⟨rfl, HB.out⟩
      · skip
        refine value_ (w1 := ?_) (v := ?_) (by rfl) rfl ?_ ?_
        rotate_left 2
        · go_simp
          constructor
          · rfl
          · rfl
        have hb : Below w1d.heap.size w1d (Lib.bytesWorld w5_1 5 a1) := below_step HS.out (conv_below w5_1 5 a1)
        have HO5 := Aside0.mk (own_conv w5_1 w1d.heap.size 5 a1 (by have := hsm.out.2; simp only [maxLen]; omega) HS.out.size)
        have hne := Aside0.mk (apart_new HO1.out a1.size (grownCap w5_1 a1.size 0 5)).symm
        have HO1 := Aside0.mk (HO1.out.below (conv_below w5_1 5 a1))
        have hb_ : Below w1d.heap.size w1d (Lib.bytesWorld w5_1 5 a1) := hb
        refine hK.out _ _ hb_ (fun hHeld => ?_)
        clear hK K
        clear hHeld
        (try clear hb)
        generalize (Lib.bytesWorld w5_1 5 a1) = w5_5 at *
        have HS := Aside0.mk hb_
        clear hb_
        refine norm_ (a' := ?_) ?_ ?_
        rotate_left
        · show Act.put _ (some 22) _ = _
          simp only [Act.put, List.setIfInBounds_toArray, List.set_cons_zero, List.set_cons_succ, i64_w, i32_w]
          rfl
        refine one_ (i := 2) (N := (some 19)) #[true, true, true, false, true, true, false, false, false, false] rfl rfl (one_of HT_.out (by kernel_rfl)) (by decide) (fun K hK => ?_)
        refine goes_ Try.func18 (by kernel_rfl) rfl #[.slice (some ⟨_, 0, none⟩) a0.size _] (by rfl) rfl rfl (by (try simp only [List.map_toArray, List.map_cons, List.map_nil]); first | done | rfl) ?_
        refine (seal_any _ _ _ _ HO1.out HS.out.size hl0.out).mono ?_
        rintro e w5_2 ⟨v2, rfl, hO2, hg2, hat2⟩
        refine ⟨_, rfl, ?_⟩
        have hne0 := hne
        have hne := Aside0.mk (apart_seal HO5.out hne.out hat2).symm
        have HO5 := Aside0.mk (HO5.out.kept hg2 hne0.out)
        have HO2 := Aside0.mk hO2
        have HF := Aside0.mk (str_of hO2)
        have hb_ : Below w1d.heap.size w1d w5_2 := own_grown HO1.out HS.out (Nat.le_refl _) HS.out.size hg2
        refine hK.out _ _ hb_ (fun hHeld => ?_)
        clear hK K
        refine wpAnyLast_str (S' := fun x_ => Below w1d.heap.size w1d x_ ∧ (convert 27 9 v2).run Try.prog x_ = .ok (.string (str (seal_ a0.data.toList))) x_) (fun x_ h_ => h_.1) ⟨hb_, str_of hO2⟩ ?_
        clear hHeld
        (try clear hb)
        have HS := Aside0.mk hb_
        clear hb_
        refine norm_ (a' := ?_) ?_ ?_
        rotate_left
        · show Act.put _ (some 19) _ = _
          simp only [Act.put, List.setIfInBounds_toArray, List.set_cons_zero, List.set_cons_succ, i64_w, i32_w]
          rfl
        refine take_ (i := 3) (N := (some 20)) (v := ?_) (a' := ?_) #[true, true, true, true, true, true, false, false, false, false] rfl rfl (take_ofW HT_.out HW_.out (by kernel_rfl)) (fun _ _ _ h => h) (Or.inl ⟨by rfl, ?_⟩) ⟨HS.out, HF.out⟩ ?_ ?_
        rotate_left
        · intro Wx hWx
          have hc := hWx.2
          go_simp
          try with_reducible rfl
        rotate_left
        · simp only [Act.put, List.setIfInBounds_toArray, List.set_cons_zero, List.set_cons_succ, i64_w, i32_w]
          rfl
        refine one_ (i := 6) (N := (some 23)) #[true, true, true, true, true, true, true, false, false, false] rfl rfl (one_of HT_.out (by kernel_rfl)) (by decide) (fun K hK => ?_)
        refine goes_ Try.func18 (by kernel_rfl) rfl #[.slice (some ⟨_, 0, none⟩) a1.size _] (by rfl) rfl rfl (by (try simp only [List.map_toArray, List.map_cons, List.map_nil]); first | done | rfl) ?_
        refine (seal_any _ _ _ _ HO5.out HS.out.size hl1.out).mono ?_
        rintro e w5_6 ⟨v6, rfl, hO6, hg6, -⟩
        refine ⟨_, rfl, ?_⟩
        have HO6 := Aside0.mk hO6
        have HF := Aside0.mk (str_of (HO2.out.kept hg6 hne.out))
        have hb_ : Below w1d.heap.size w1d w5_6 ∧ (convert 27 9 v2).run Try.prog w5_6 = .ok (.string (str (seal_ a0.data.toList))) w5_6 := ⟨own_grown HO5.out HS.out (Nat.le_refl _) HS.out.size hg6, str_of (HO2.out.kept hg6 hne.out)⟩
        refine hK.out _ _ hb_ (fun hHeld => ?_)
        clear hK K
        have HB := Aside0.mk (below_step HB.out hb_.1)
        refine wpAnyLast_str (S' := fun x_ => Below w5_6.heap.size w5_6 x_ ∧ (convert 27 9 v2).run Try.prog x_ = .ok (.string (str (seal_ a0.data.toList))) x_) (fun x_ h_ => ⟨below_step hHeld.1 h_.1, h_.2⟩) ⟨Below.refl _ _, hb_.2⟩ ?_
        clear hHeld
        (try clear hb)
        have HS := Aside0.mk (Below.refl w5_6.heap.size w5_6)
        clear hb_
        refine norm_ (a' := ?_) ?_ ?_
        rotate_left
        · show Act.put _ (some 23) _ = _
          simp only [Act.put, List.setIfInBounds_toArray, List.set_cons_zero, List.set_cons_succ, i64_w, i32_w]
          rfl
        refine pure_ (i := 8) (N := (some 5)) (v := ?_) (a' := ?_) #[true, true, true, true, true, true, true, false, true, false] rfl rfl (any_of HT_.out (by kernel_rfl)) (fun _ _ _ h => h) (Or.inl ⟨by rfl, ?_⟩) ?_ ?_
        rotate_left
        · intro w_
          go_simp
          try with_reducible rfl
        rotate_left
        · simp only [Act.put, List.setIfInBounds_toArray, List.set_cons_zero, List.set_cons_succ, i64_w, i32_w]
          rfl
        refine take_ (i := 7) (N := (some 24)) (v := ?_) (a' := ?_) #[true, true, true, true, true, true, true, true, true, false] rfl rfl (take_ofW HT_.out HW_.out (by kernel_rfl)) (fun _ _ _ h => h) (Or.inl ⟨by rfl, ?_⟩) ⟨HS.out, HF.out⟩ ?_ ?_
        rotate_left
        · intro Wx hWx
          have hc := str_of (HO6.out.below hWx.1)
          go_simp
          try with_reducible rfl
        rotate_left
        · simp only [Act.put, List.setIfInBounds_toArray, List.set_cons_zero, List.set_cons_succ, i64_w, i32_w]
          rfl
        refine pure_ (i := 9) (N := (some 6)) (v := ?_) (a' := ?_) #[true, true, true, true, true, true, true, true, true, true] rfl rfl (any_of HT_.out (by kernel_rfl)) (fun _ _ _ h => h) (Or.inl ⟨by rfl, ?_⟩) ?_ ?_
        rotate_left
        · intro w_
          go_simp
          try with_reducible rfl
        rotate_left
        · simp only [Act.put, List.setIfInBounds_toArray, List.set_cons_zero, List.set_cons_succ, i64_w, i32_w]
          rfl
        refine done_ (done_of HT_.out (by kernel_rfl)) ?_
        clear HO1 HO5 HO2 HO6 kb kc
        (try clear HF)
        (try clear hne)
        (try clear hne0)
        have e1 : ((str (seal_ a0.data.toList)).toList == (str (seal_ a1.data.toList)).toList) = (a0.toList == a1.toList) := seal_beq a0 a1
        have e2 : (str (seal_ a0.data.toList)).size = a0.size + 4 := by rw [str_size, seal_length, data_length]
        have e3 : (str (seal_ a0.data.toList)).extract 0 a0.size = a0 := seal_extract a0
        have hs0 := hsm.out.1
        go_wp2
        go_ret
        exact ⟨rfl, HB.out⟩
    · skip
      refine value_ (w1 := ?_) (v := ?_) (by rfl) rfl ?_ ?_
      rotate_left 2
      · go_simp
        constructor
        · rfl
        · rfl
      have hb : Below w1d.heap.size w1d (Lib.bytesWorld w1d 5 a1) := below_step HS.out (conv_below w1d 5 a1)
      have HO5 := Aside0.mk (own_conv w1d w1d.heap.size 5 a1 (by have := hsm.out.2; simp only [maxLen]; omega) HS.out.size)
      have hb_ : Below w1d.heap.size w1d (Lib.bytesWorld w1d 5 a1) := hb
      refine hK.out _ _ hb_ (fun hHeld => ?_)
      clear hK K
      clear hHeld
      (try clear hb)
      generalize (Lib.bytesWorld w1d 5 a1) = w5_5 at *
      have HS := Aside0.mk hb_
      clear hb_
      refine norm_ (a' := ?_) ?_ ?_
      rotate_left
      · show Act.put _ (some 22) _ = _
        simp only [Act.put, List.setIfInBounds_toArray, List.set_cons_zero, List.set_cons_succ, i64_w, i32_w]
        rfl
      refine one_ (i := 1) (N := (some 18)) #[true, true, false, false, true, true, false, false, false, false] rfl rfl (one_of HT_.out (by kernel_rfl)) (by decide) (fun K hK => ?_)
      refine value_ (w1 := ?_) (v := ?_) (by rfl) rfl ?_ ?_
      rotate_left 2
      · go_simp
        constructor
        · rfl
        · rfl
      have hb : Below w1d.heap.size w1d (Lib.bytesWorld w5_5 5 a0) := below_step HS.out (conv_below w5_5 5 a0)
      have HO1 := Aside0.mk (own_conv w5_5 w1d.heap.size 5 a0 (by have := hsm.out.1; simp only [maxLen]; omega) HS.out.size)
      have hne := Aside0.mk (apart_new HO5.out a0.size (grownCap w5_5 a0.size 0 5))
      have HO5 := Aside0.mk (HO5.out.below (conv_below w5_5 5 a0))
      have hb_ : Below w1d.heap.size w1d (Lib.bytesWorld w5_5 5 a0) := hb
      refine hK.out _ _ hb_ (fun hHeld => ?_)
      clear hK K
      clear hHeld
      (try clear hb)
      generalize (Lib.bytesWorld w5_5 5 a0) = w5_1 at *
      have HS := Aside0.mk hb_
      clear hb_
      refine norm_ (a' := ?_) ?_ ?_
      rotate_left
      · show Act.put _ (some 18) _ = _
        simp only [Act.put, List.setIfInBounds_toArray, List.set_cons_zero, List.set_cons_succ, i64_w, i32_w]
        rfl
      refine one_ (i := 2) (N := (some 19)) #[true, true, true, false, true, true, false, false, false, false] rfl rfl (one_of HT_.out (by kernel_rfl)) (by decide) (fun K hK => ?_)
      refine goes_ Try.func18 (by kernel_rfl) rfl #[.slice (some ⟨_, 0, none⟩) a0.size _] (by rfl) rfl rfl (by (try simp only [List.map_toArray, List.map_cons, List.map_nil]); first | done | rfl) ?_
      refine (seal_any _ _ _ _ HO1.out HS.out.size hl0.out).mono ?_
      rintro e w5_2 ⟨v2, rfl, hO2, hg2, hat2⟩
      refine ⟨_, rfl, ?_⟩
      have hne0 := hne
      have hne := Aside0.mk (apart_seal HO5.out hne.out hat2).symm
      have HO5 := Aside0.mk (HO5.out.kept hg2 hne0.out)
      have HO2 := Aside0.mk hO2
      have HF := Aside0.mk (str_of hO2)
      have hb_ : Below w1d.heap.size w1d w5_2 := own_grown HO1.out HS.out (Nat.le_refl _) HS.out.size hg2
      refine hK.out _ _ hb_ (fun hHeld => ?_)
      clear hK K
      refine wpAnyLast_str (S' := fun x_ => Below w1d.heap.size w1d x_ ∧ (convert 27 9 v2).run Try.prog x_ = .ok (.string (str (seal_ a0.data.toList))) x_) (fun x_ h_ => h_.1) ⟨hb_, str_of hO2⟩ ?_
      clear hHeld
      (try clear hb)
      have HS := Aside0.mk hb_
      clear hb_
      refine norm_ (a' := ?_) ?_ ?_
      rotate_left
      · show Act.put _ (some 19) _ = _
        simp only [Act.put, List.setIfInBounds_toArray, List.set_cons_zero, List.set_cons_succ, i64_w, i32_w]
        rfl
      refine take_ (i := 3) (N := (some 20)) (v := ?_) (a' := ?_) #[true, true, true, true, true, true, false, false, false, false] rfl rfl (take_ofW HT_.out HW_.out (by kernel_rfl)) (fun _ _ _ h => h) (Or.inl ⟨by rfl, ?_⟩) ⟨HS.out, HF.out⟩ ?_ ?_
      rotate_left
      · intro Wx hWx
        have hc := hWx.2
        go_simp
        try with_reducible rfl
      rotate_left
      · simp only [Act.put, List.setIfInBounds_toArray, List.set_cons_zero, List.set_cons_succ, i64_w, i32_w]
        rfl
      refine one_ (i := 6) (N := (some 23)) #[true, true, true, true, true, true, true, false, false, false] rfl rfl (one_of HT_.out (by kernel_rfl)) (by decide) (fun K hK => ?_)
      refine goes_ Try.func18 (by kernel_rfl) rfl #[.slice (some ⟨_, 0, none⟩) a1.size _] (by rfl) rfl rfl (by (try simp only [List.map_toArray, List.map_cons, List.map_nil]); first | done | rfl) ?_
      refine (seal_any _ _ _ _ HO5.out HS.out.size hl1.out).mono ?_
      rintro e w5_6 ⟨v6, rfl, hO6, hg6, -⟩
      refine ⟨_, rfl, ?_⟩
      have HO6 := Aside0.mk hO6
      have HF := Aside0.mk (str_of (HO2.out.kept hg6 hne.out))
      have hb_ : Below w1d.heap.size w1d w5_6 ∧ (convert 27 9 v2).run Try.prog w5_6 = .ok (.string (str (seal_ a0.data.toList))) w5_6 := ⟨own_grown HO5.out HS.out (Nat.le_refl _) HS.out.size hg6, str_of (HO2.out.kept hg6 hne.out)⟩
      refine hK.out _ _ hb_ (fun hHeld => ?_)
      clear hK K
      have HB := Aside0.mk (below_step HB.out hb_.1)
      refine wpAnyLast_str (S' := fun x_ => Below w5_6.heap.size w5_6 x_ ∧ (convert 27 9 v2).run Try.prog x_ = .ok (.string (str (seal_ a0.data.toList))) x_) (fun x_ h_ => ⟨below_step hHeld.1 h_.1, h_.2⟩) ⟨Below.refl _ _, hb_.2⟩ ?_
      clear hHeld
      (try clear hb)
      have HS := Aside0.mk (Below.refl w5_6.heap.size w5_6)
      clear hb_
      refine norm_ (a' := ?_) ?_ ?_
      rotate_left
      · show Act.put _ (some 23) _ = _
        simp only [Act.put, List.setIfInBounds_toArray, List.set_cons_zero, List.set_cons_succ, i64_w, i32_w]
        rfl
      refine pure_ (i := 8) (N := (some 5)) (v := ?_) (a' := ?_) #[true, true, true, true, true, true, true, false, true, false] rfl rfl (any_of HT_.out (by kernel_rfl)) (fun _ _ _ h => h) (Or.inl ⟨by rfl, ?_⟩) ?_ ?_
      rotate_left
      · intro w_
        go_simp
        try with_reducible rfl
      rotate_left
      · simp only [Act.put, List.setIfInBounds_toArray, List.set_cons_zero, List.set_cons_succ, i64_w, i32_w]
        rfl
      refine take_ (i := 7) (N := (some 24)) (v := ?_) (a' := ?_) #[true, true, true, true, true, true, true, true, true, false] rfl rfl (take_ofW HT_.out HW_.out (by kernel_rfl)) (fun _ _ _ h => h) (Or.inl ⟨by rfl, ?_⟩) ⟨HS.out, HF.out⟩ ?_ ?_
      rotate_left
      · intro Wx hWx
        have hc := str_of (HO6.out.below hWx.1)
        go_simp
        try with_reducible rfl
      rotate_left
      · simp only [Act.put, List.setIfInBounds_toArray, List.set_cons_zero, List.set_cons_succ, i64_w, i32_w]
        rfl
      refine pure_ (i := 9) (N := (some 6)) (v := ?_) (a' := ?_) #[true, true, true, true, true, true, true, true, true, true] rfl rfl (any_of HT_.out (by kernel_rfl)) (fun _ _ _ h => h) (Or.inl ⟨by rfl, ?_⟩) ?_ ?_
      rotate_left
      · intro w_
        go_simp
        try with_reducible rfl
      rotate_left
      · simp only [Act.put, List.setIfInBounds_toArray, List.set_cons_zero, List.set_cons_succ, i64_w, i32_w]
        rfl
      refine done_ (done_of HT_.out (by kernel_rfl)) ?_
      clear HO1 HO5 HO2 HO6 kb kc
      (try clear HF)
      (try clear hne)
      (try clear hne0)
      have e1 : ((str (seal_ a0.data.toList)).toList == (str (seal_ a1.data.toList)).toList) = (a0.toList == a1.toList) := seal_beq a0 a1
      have e2 : (str (seal_ a0.data.toList)).size = a0.size + 4 := by rw [str_size, seal_length, data_length]
      have e3 : (str (seal_ a0.data.toList)).extract 0 a0.size = a0 := seal_extract a0
      have hs0 := hsm.out.1
      go_wp2
      go_ret
      exact ⟨rfl, HB.out⟩
end Go.Proofs.Ytahjpeihekphcaa.S
