/- Labels and entries as bytes: record.put, record.Put, record.Stream. -/
import Derived.Test.YtfejjfbhlmjkeaaC1
import Derived.Test.YtfejjfbhlmjkeaaNB2
import Derived.Test.YtfejjfbhlmjkeaaReg
set_option linter.unusedVariables false
set_option linter.unusedSimpArgs false
namespace Go.Proofs.Ytfejjfbhlmjkeaa.C
open Go.RowKit Go.Proofs.YtfejjfbhlmjkeaaW.PrintWords Go.Proofs.YtfejjfbhlmjkeaaW.PrintLast Go.Proofs.YtfejjfbhlmjkeaaW.PrintMore Go.Proofs.Ytfejjfbhlmjkeaa.B Go.Proofs.Ytfejjfbhlmjkeaa.Reg Go.Proofs.Ytfejjfbhlmjkeaa.PRecordIs Go.Proofs.Ytfejjfbhlmjkeaa.CQ Go.Proofs.Ytfejjfbhlmjkeaa.Vi Go.Proofs.Ytfejjfbhlmjkeaa.N Go.Proofs.Ytfejjfbhlmjkeaa.Bt

/-- What may turn: what lies from n on, but for block j. -/
structure Kj (n j : Nat) (w w' : World) : Prop where
  below : Below n w w'
  box : w'.heap[j]? = w.heap[j]?
theorem Kj.refl {n j : Nat} (w : World) : Kj n j w w := ⟨Below.refl _ _, rfl⟩
theorem Kj.trans {n j : Nat} {a b c : World} (h : Kj n j a b) (k : Kj n j b c) : Kj n j a c := ⟨h.below.trans k.below, k.box.trans h.box⟩
theorem Kj.drew {n j : Nat} {a b : World} (h : Kj n j a b) : Kj n j a (b.drewN 1) := ⟨pw_below_drewN h.below 1, h.box⟩
theorem Kj.of {n j : Nat} {a b : World} {v : Value} (h : a.grownBy b v.ownBlock) (hn : n ≤ a.heap.size) (hv : ∀ k, v.ownBlock = some k → n ≤ k) (hj : j < a.heap.size) (hne : v.ownBlock ≠ some j) : Kj n j a b :=
  ⟨(Below.refl n a).grown h hn hv, h.block j hj (Ne.symm hne)⟩
theorem Kj.at {n j : Nat} {a b : World} {o : Obj} (h : Kj n j a b) (k : a.heap[j]? = some o) : b.heap[j]? = some o := h.box.trans k
theorem near_ne {w : World} {v v' : Value} {j : Nat} (h : Near w v v') (hj : j < w.heap.size) (hne : v.ownBlock ≠ some j) : v'.ownBlock ≠ some j := by
  rcases h with h | ⟨b, h, hb⟩
  · rw [h]; exact hne
  · rw [h]; intro e; cases e; omega
/-- A text's bytes, with how long it is. -/
def txt (s : ByteArray) : List UInt8 := vint s.size ++ s.data.toList
def labB (xs : List S47) : List UInt8 := xs.flatMap fun x => txt x.f0 ++ txt x.f1
def putB (xs : List S47) : List UInt8 := vint xs.length ++ labB xs
def entB (k : Key) : List UInt8 := vint (zig k.at_) ++ (putB k.ls ++ txt k.line)
/-- No text of a row is too long. -/
def Short (xs : List S47) : Prop := xs.length ≤ 1000 ∧ ∀ x ∈ xs, x.f0.size ≤ 100000 ∧ x.f1.size ≤ 100000
theorem txt_len {s : ByteArray} (h : s.size ≤ 100000) : (txt s).length ≤ 100010 := by
  unfold txt
  have := vint_le10 (n := s.size) (by omega)
  have h2 : s.data.toList.length = s.size := Array.length_toList
  rw [List.length_append]; omega
theorem labB_len : ∀ xs : List S47, (∀ x ∈ xs, x.f0.size ≤ 100000 ∧ x.f1.size ≤ 100000) → (labB xs).length ≤ xs.length * 200020
  | [], _ => Nat.le_refl _
  | x :: xs, h => by
    have ih := labB_len xs fun y hy => h y (List.mem_cons_of_mem _ hy)
    have h0 := h x (List.mem_cons_self ..)
    have a := txt_len h0.1
    have b := txt_len h0.2
    unfold labB at *
    rw [List.flatMap_cons, List.length_append, List.length_append, List.length_cons]; omega
theorem labB_take (xs : List S47) (i : Nat) (h : i < xs.length) : labB (xs.take (i + 1)) = labB (xs.take i) ++ (txt xs[i].f0 ++ txt xs[i].f1) := by
  unfold labB
  rw [List.take_succ_eq_append_getElem h, List.flatMap_append]
  simp
theorem take_len (xs : List S47) (hs : Short xs) (i : Nat) : (labB (xs.take i)).length ≤ 200020000 := by
  have h1 := labB_len (xs.take i) fun x hx => hs.2 x (List.mem_of_mem_take hx)
  have h2 : (xs.take i).length ≤ xs.length := by rw [List.length_take]; omega
  have h3 := hs.1
  have : (xs.take i).length * 200020 ≤ 1000 * 200020 := Nat.mul_le_mul_right _ (by omega)
  omega
theorem grown_box {w w' : World} {row : Option Nat} {j : Nat} {o : Obj} (h : w.grownBy w' row) (hj : j < w.heap.size) (hne : row ≠ some j) (k : w.heap[j]? = some o) : w'.heap[j]? = some o := (h.block j hj (Ne.symm hne)).trans k
def T_record_put_5 : Bool × List (List Nat × List Nat) := (true, [([], []), ([], []), ([1], [1]), ([0, 2], [0, 2]), ([], []), ([4], [4]), ([3, 5, 3], [3, 5]), ([6, 6, 0, 1, 2, 3, 4, 5, 6], [0, 6])])
def B_record_put_5 : List Nat := [0, 0, 2, 7, 0, 16, 63, 127]
theorem tab_record_put_5 : rtab .any (opsOf Try.f60 5) = T_record_put_5 := by kernel_rfl
theorem bits_record_put_5 : waitsOk T_record_put_5.2 B_record_put_5 = true := by kernel_rfl
set_option maxRecDepth 20000 in
set_option maxHeartbeats 2000000 in
theorem put_any {w0 w : World} (v : Value) (l : List UInt8) (xs : List S47) (A : Option Addr) (c : Nat) (hw : Below w0.heap.size w0 w) (hx : Kd.C k47 w0 A xs.length xs) (hs : Short xs) (hO : Own w w0.heap.size 5 v (cs l)) (hl : l.length ≤ 1000000) :
    Calls Try.prog 60 #[v, .slice A xs.length c] w fun e w' => ∃ v', e = .returned v' ∧ Own w' w0.heap.size 5 v' (cs (l ++ putB xs)) ∧ w.grownBy w' v.ownBlock ∧ Near w v v' := by
  obtain ⟨n0, hn0⟩ : ∃ n, n = w0.heap.size := ⟨_, rfl⟩
  have HX : Aside0 (∀ V, Below n0 w0 V → Kd.C k47 V A xs.length xs) := ⟨fun V h => Kd.C_below hx (hn0 ▸ h)⟩
  rw [← hn0] at hw hO ⊢
  have HSh := Aside0.mk hs
  have HL := Aside0.mk hl
  have hsz : n0 ≤ w.heap.size := by rw [hn0]; exact hw.size
  have HU := Aside0.mk (uint_at (x := (xs.length : Int)) xs.length rfl hO hsz (by omega) (by have := hs.1; omega))
  have HBw : Aside0 (∀ V, w.grownBy V v.ownBlock → Below n0 w0 V) := ⟨fun V h => hw.grown h hsz (fun k hk => (hO.lt k hk).1)⟩
  have Hsz := Aside0.mk hsz
  have hu : IntKind.u64.wrap (xs.length : Int) = (xs.length : Int) := by rw [u64_wrap]; have := hs.1; omega
  clear hx hn0 hw hO hsz hs hl
  go_enter Try.func60, Try.ntmps60
  go_wp2_with fail
  ((refine HU.out.mono ?_); rintro e w1 ⟨v1, rfl, h1, h2, h3⟩)
  have HO : Aside0 (Own w1 n0 5 v1 (cs (l ++ (vint xs.length ++ labB (xs.take 0))))) := ⟨by rw [show labB (xs.take 0) = [] from rfl, List.append_nil]; exact h1⟩
  have HG := Aside0.mk h2
  have HN := Aside0.mk h3
  clear h1 h2 h3 HU hu
  go_wp2
  go_loopw [0, 14] (fun t0_ t14 wr => ∃ (i : Nat) (u : Value), i ≤ xs.length ∧ u = t0_ ∧ t14 = .int .i64 (i : Int) ∧ Aside0 (Own wr n0 5 u (cs (l ++ (vint xs.length ++ labB (xs.take i))))) ∧ Aside0 (w.grownBy wr v.ownBlock) ∧ Aside0 (Near w v u)) (fun _ t14 _ => xs.length - (intOf t14).toNat)
  case atStart => exact ⟨0, _, Nat.zero_le _, rfl, rfl, HO, HG, HN⟩
  case round =>
    clear HO HG HN
    obtain ⟨i, t0, hi, rfl, rfl, HO, HG, HN⟩ := hrel
    by_cases hlt : i < xs.length
    · have d1 : decide (i < xs.length) = true := decide_eq_true hlt
      obtain ⟨ad, hA, k0, k1⟩ := at_T47 (HX.out _ (HBw.out _ HG.out)) (i : Int) (by omega) (by omega)
      subst hA
      rw [Int.toNat_natCast] at k0 k1
      rw [at47 hlt] at k0 k1
      have HT := Aside0.mk (labB_take xs i hlt)
      have HSx := Aside0.mk (HSh.out.2 xs[i] (List.getElem_mem hlt))
      obtain ⟨x, hxe⟩ : ∃ x, x = xs[i] := ⟨_, rfl⟩
      rw [← hxe] at k0 k1 HT HSx
      obtain ⟨x0, x1⟩ := x
      clear hxe
      dsimp only at k0 k1 HT HSx
      obtain ⟨l', hl'⟩ : ∃ l', l' = l ++ (vint xs.length ++ labB (xs.take i)) := ⟨_, rfl⟩
      rw [← hl'] at HO
      have HL' : Aside0 (l'.length ≤ 300000000) := ⟨by
        have h1 := take_len xs HSh.out i
        have h2 := vint_le10 (n := xs.length) (by have := HSh.out.1; omega)
        have h3 := HL.out
        rw [hl', List.length_append, List.length_append]; omega⟩
      have HT2 : Aside0 (l ++ (vint xs.length ++ labB (xs.take (i + 1))) = l' ++ txt x0 ++ txt x1) := ⟨by rw [HT.out, hl']; simp only [List.append_assoc]⟩
      clear hl' HT
      obtain ⟨W, hW⟩ : ∃ W, W = wr.alloc (.cells #[.string x0, .string x1] 47) := ⟨_, rfl⟩
      have HZ : Aside0 (n0 ≤ wr.heap.size) := ⟨Nat.le_trans Hsz.out HG.out.size⟩
      have HGW : Aside0 (w.grownBy W v.ownBlock) := ⟨by rw [hW]; exact grown_alloc HG.out _⟩
      obtain ⟨j, hj⟩ : ∃ j, j = wr.heap.size := ⟨_, rfl⟩
      have HB : Aside0 (World.grownBy W W t0.ownBlock) := ⟨grown_refl _ _⟩
      have X0 : Aside0 (W.heap[j]? = some (.cells #[.string x0, .string x1] 47)) := ⟨by rw [hW, hj]; exact Go.heap_alloc_new _ _⟩
      have Hne : Aside0 (t0.ownBlock ≠ some j) := ⟨fun e => by
        have := (HO.out.lt j e).2
        omega⟩
      have HO : Aside0 (Own W n0 5 t0 (cs l')) := ⟨by rw [hW]; exact HO.out.alloc _⟩
      have Hj : Aside0 (j < W.heap.size ∧ n0 ≤ W.heap.size) := ⟨by rw [hW, hj]; have := HZ.out; simp; omega⟩
      have HwW : Aside0 (w.heap.size ≤ W.heap.size) := ⟨HGW.out.size⟩
      have HW := Aside0.mk hW
      have HJ := Aside0.mk hj
      have Hlt := Aside0.mk hlt
      clear hW hj hi
      go_wp2_with fail
      try rw [← HW.out]
      try rw [← HJ.out]
      clear HW HJ
      refine start_ (n := 8) (S := fun x_ => World.grownBy W x_ t0.ownBlock) (ds := []) #[false, false, false, false, false, false, false, false] (by kernel_rfl) rfl rfl (grown_drewN (grown_refl _ t0.ownBlock) 1) (fun hHeld => ?_)
      refine with_tabW tab_record_put_5 bits_record_put_5 (fun HT_ HW_ => ?_)
      have HB := Aside0.mk (grown_drewN HB.out 1)
      change Aside0 (World.grownBy _ (World.drew W) _) at HB
      change World.grownBy _ (World.drew W) _ at hHeld
      have hSz : (World.drew W).heap.size = W.heap.size := rfl
      have HB : Aside0 (World.grownBy (World.drew W) (World.drew W) t0.ownBlock) := ⟨grown_refl _ _⟩
      have X0 := Aside0.mk (show (World.drew W).heap[j]? = _ from X0.out)
      have HO := Aside0.mk (show Own (World.drew W) n0 5 t0 (cs l') from HO.out)
      have Hj := Aside0.mk (show j < (World.drew W).heap.size ∧ n0 ≤ (World.drew W).heap.size from Hj.out)
      have HGW := Aside0.mk (show w.grownBy (World.drew W) v.ownBlock from grown_drewN HGW.out 1)
      have HwW := Aside0.mk (show w.heap.size ≤ (World.drew W).heap.size from HwW.out)
      refine wpAnyLast_str (S' := fun x_ => World.grownBy (World.drew W) x_ t0.ownBlock) (fun x_ hx_ => World.grownBy.trans hHeld hx_) (grown_refl _ t0.ownBlock) ?_
      clear hHeld hSz
      generalize World.drew W = Wd at *
      have HS := Aside0.mk (grown_refl Wd t0.ownBlock)
      refine pure_ (i := 0) (N := (some 18)) (v := ?_) (a' := ?_) #[true, false, false, false, false, false, false, false] rfl rfl (any_of HT_.out (by kernel_rfl)) (fun _ _ _ h => h) (Or.inl ⟨by rfl, ?_⟩) ?_ ?_
      rotate_left
      · intro w_
        go_simp
        try with_reducible rfl
      rotate_left
      · simp only [Act.put, List.setIfInBounds_toArray, List.set_cons_zero, List.set_cons_succ, i64_w, i32_w]
        rfl
      refine pure_ (i := 1) (N := (some 19)) (v := ?_) (a' := ?_) #[true, true, false, false, false, false, false, false] rfl rfl (any_of HT_.out (by kernel_rfl)) (fun _ _ _ h => h) (Or.inl ⟨by rfl, ?_⟩) ?_ ?_
      rotate_left
      · intro w_
        go_simp
        try with_reducible rfl
      rotate_left
      · simp only [Act.put, List.setIfInBounds_toArray, List.set_cons_zero, List.set_cons_succ, i64_w, i32_w]
        rfl
      refine pure_ (i := 4) (N := (some 22)) (v := ?_) (a' := ?_) #[true, true, false, false, true, false, false, false] rfl rfl (any_of HT_.out (by kernel_rfl)) (fun _ _ _ h => h) (Or.inl ⟨by rfl, ?_⟩) ?_ ?_
      rotate_left
      · intro w_
        go_simp
        try with_reducible rfl
      rotate_left
      · simp only [Act.put, List.setIfInBounds_toArray, List.set_cons_zero, List.set_cons_succ, i64_w, i32_w]
        rfl
      refine take_ (i := 2) (N := (some 20)) (v := ?_) (a' := ?_) #[true, true, true, false, true, false, false, false] rfl rfl (take_ofW HT_.out HW_.out (by kernel_rfl)) (fun _ _ _ h => h) (Or.inl ⟨by rfl, ?_⟩) (grown_refl _ t0.ownBlock) ?_ ?_
      rotate_left
      · intro Wx hWx
        have hc := (blk_cell (grown_box hWx Hj.out.1 Hne.out X0.out) 0).trans rfl
        go_simp
        try with_reducible rfl
      rotate_left
      · simp only [Act.put, List.setIfInBounds_toArray, List.set_cons_zero, List.set_cons_succ, i64_w, i32_w]
        rfl
      refine take_ (i := 5) (N := (some 23)) (v := ?_) (a' := ?_) #[true, true, true, false, true, true, false, false] rfl rfl (take_ofW HT_.out HW_.out (by kernel_rfl)) (fun _ _ _ h => h) (Or.inl ⟨by rfl, ?_⟩) (grown_refl _ t0.ownBlock) ?_ ?_
      rotate_left
      · intro Wx hWx
        have hc := (blk_cell (grown_box hWx Hj.out.1 Hne.out X0.out) 1).trans rfl
        go_simp
        try with_reducible rfl
      rotate_left
      · simp only [Act.put, List.setIfInBounds_toArray, List.set_cons_zero, List.set_cons_succ, i64_w, i32_w]
        rfl
      refine one_ (i := 3) (N := (some 21)) #[true, true, true, true, true, true, false, false] rfl rfl (one_of HT_.out (by kernel_rfl)) (by decide) (fun K hK => ?_)
      refine goes_ Try.func65 (by kernel_rfl) rfl #[t0, .string x0] (by rfl) rfl rfl (by (try simp only [List.map_toArray, List.map_cons, List.map_nil]); first | done | rfl) ?_
      refine (text_any n0 t0 l' x0 Wd HO.out Hj.out.2 (by have := HL'.out; omega) (by have := HSx.out.1; omega)).mono ?_
      rintro e w5_3 ⟨v2, rfl, h2_, h3_, h4_⟩
      refine ⟨_, rfl, ?_⟩
      have HN2 := Aside0.mk h4_
      have HO := Aside0.mk h2_
      have HSz := Aside0.mk h3_.size
      have Hj2 := Aside0.mk (Nat.le_trans Hj.out.2 h3_.size)
      have hb_ : World.grownBy Wd w5_3 t0.ownBlock := h3_
      have HB := Aside0.mk (World.grownBy.trans HB.out hb_)
      refine hK.out _ _ hb_ (fun hHeld => ?_)
      clear hK K
      refine wpAnyLast_str (S' := fun x_ => World.grownBy w5_3 x_ v2.ownBlock) (fun x_ hx_ => grown_then hHeld hx_ HN2.out) (grown_refl _ v2.ownBlock) ?_
      clear hHeld
      (try clear hb)
      clear hb_
      have HS := Aside0.mk (grown_refl w5_3 v2.ownBlock)
      refine norm_ (a' := ?_) ?_ ?_
      rotate_left
      · show Act.put _ (some 21) _ = _
        simp only [Act.put, List.setIfInBounds_toArray, List.set_cons_zero, List.set_cons_succ, i64_w, i32_w]
        rfl
      refine one_ (i := 6) (N := (some 24)) #[true, true, true, true, true, true, true, false] rfl rfl (one_of HT_.out (by kernel_rfl)) (by decide) (fun K hK => ?_)
      refine goes_ Try.func65 (by kernel_rfl) rfl #[v2, .string x1] (by rfl) rfl rfl (by (try simp only [List.map_toArray, List.map_cons, List.map_nil]); first | done | rfl) ?_
      refine (text_any n0 v2 (l' ++ txt x0) x1 w5_3 HO.out Hj2.out (by have := HL'.out; have := txt_len HSx.out.1; rw [List.length_append]; omega) (by have := HSx.out.2; omega)).mono ?_
      rintro e w5_6 ⟨v3, rfl, h2_, h3_, h4_⟩
      refine ⟨_, rfl, ?_⟩
      have HN3 := Aside0.mk (HN2.out.trans h4_ HSz.out)
      have HO := Aside0.mk h2_
      have hb_ : World.grownBy w5_3 w5_6 v2.ownBlock := h3_
      have HB := Aside0.mk (grown_then HB.out hb_ HN2.out)
      refine hK.out _ _ hb_ (fun hHeld => ?_)
      clear hK K
      refine wpAnyLast_str (S' := fun x_ => World.grownBy w5_6 x_ v2.ownBlock) (fun x_ hx_ => World.grownBy.trans hHeld hx_) (grown_refl _ v2.ownBlock) ?_
      clear hHeld
      (try clear hb)
      clear hb_
      have HS := Aside0.mk (grown_refl w5_6 v2.ownBlock)
      refine norm_ (a' := ?_) ?_ ?_
      rotate_left
      · show Act.put _ (some 24) _ = _
        simp only [Act.put, List.setIfInBounds_toArray, List.set_cons_zero, List.set_cons_succ, i64_w, i32_w]
        rfl
      refine pure_ (i := 7) (N := (some 0)) (v := ?_) (a' := ?_) #[true, true, true, true, true, true, true, true] rfl rfl (any_of HT_.out (by kernel_rfl)) (fun _ _ _ h => h) (Or.inl ⟨by rfl, ?_⟩) ?_ ?_
      rotate_left
      · intro w_
        go_simp
        try with_reducible rfl
      rotate_left
      · simp only [Act.put, List.setIfInBounds_toArray, List.set_cons_zero, List.set_cons_succ, i64_w, i32_w]
        rfl
      refine done_ (done_of HT_.out (by kernel_rfl)) ?_
      go_wp2_with fail
      go_roundw
      case rel =>
        have h1 := Hlt.out
        have h2 := HSh.out.1
        exact ⟨i + 1, v3, by omega, rfl, by rw [w64_in _ (by omega)]; rfl, ⟨by rw [HT2.out]; exact HO.out⟩, ⟨grown_then HGW.out HB.out HN.out⟩, ⟨HN.out.trans HN3.out HwW.out⟩⟩
      case measure => have h1 := Hlt.out; have h2 := HSh.out.1; rw [w64_in _ (by omega)]; simp [intOf]; omega
    · have d1 : decide (i < xs.length) = false := decide_eq_false hlt
      have hi2 : i = xs.length := by omega
      have HO2 : Aside0 (Own wr n0 5 t0 (cs (l ++ putB xs))) := ⟨by have := HO.out; rw [hi2, List.take_length] at this; exact this⟩
      clear hi2 HO hlt hi
      go_wp2
      go_ret
      exact ⟨t0, rfl, HO2.out, HG.out, HN.out⟩
theorem putB_len (xs : List S47) (hs : Short xs) : (putB xs).length ≤ 200030000 := by
  have h1 := take_len xs hs xs.length
  rw [List.take_length] at h1
  have h2 := vint_le10 (n := xs.length) (by have := hs.1; omega)
  unfold putB
  rw [List.length_append]; omega
def T_record_Put_1 : Bool × List (List Nat × List Nat) := (true, [([], []), ([], []), ([1], [1]), ([0, 2], [0, 2]), ([], []), ([4], [4]), ([3, 5, 3], [3, 5]), ([], []), ([7], [7]), ([6, 8, 6], [6, 8]), ([9, 9, 0, 1, 2, 3, 4, 5, 6, 7, 8, 9], [9])])
def B_record_Put_1 : List Nat := [0, 0, 2, 7, 0, 16, 63, 0, 128, 511, 1023]
theorem tab_record_Put_1 : rtab .any (opsOf Try.f37 1) = T_record_Put_1 := by kernel_rfl
theorem bits_record_Put_1 : waitsOk T_record_Put_1.2 B_record_Put_1 = true := by kernel_rfl
set_option maxRecDepth 20000 in
set_option maxHeartbeats 2000000 in
theorem putE_any {w0 w : World} (v : Value) (l : List UInt8) (x : Ent) (hw : Below w0.heap.size w0 w) (hx : x.In w0) (hs : Short x.ls) (hln : x.line.size ≤ 1000000) (h0 : -9223372036854775808 ≤ x.at_ ∧ x.at_ ≤ 9223372036854775807) (hO : Own w w0.heap.size 5 v (cs l)) (hl : l.length ≤ 10000) :
    Calls Try.prog 37 #[v, x.val] w fun e w' => ∃ v', e = .returned v' ∧ Own w' w0.heap.size 5 v' (cs (l ++ entB x.key)) ∧ w.grownBy w' v.ownBlock ∧ Near w v v' := by
  have HX := Aside0.mk hx.lies
  have HSh := Aside0.mk hs
  have HLn := Aside0.mk hln
  have H0 := Aside0.mk h0
  have HL := Aside0.mk hl
  clear hx hs hln h0 hl
  obtain ⟨x0, xA, xc, xl, x2⟩ := x
  unfold Ent.val
  dsimp only at HX HSh HLn H0 ⊢
  obtain ⟨n0, hn0⟩ : ∃ n, n = w0.heap.size := ⟨_, rfl⟩
  have hsz : n0 ≤ w.heap.size := by rw [hn0]; exact hw.size
  have HP : Aside0 (∀ (V : World) (u : Value) (m : List UInt8), Below n0 w0 V → Own V n0 5 u (cs m) → m.length ≤ 1000000 → Calls Try.prog 60 #[u, .slice xA xl.length xc] V fun e w' => ∃ v', e = .returned v' ∧ Own w' n0 5 v' (cs (m ++ putB xl)) ∧ V.grownBy w' u.ownBlock ∧ Near V u v') := ⟨fun V u m h1 h2 h3 => by
    rw [hn0] at h1 h2 ⊢
    exact put_any u m xl xA xc h1 HX.out HSh.out h2 h3⟩
  rw [← hn0] at hw hO ⊢
  obtain ⟨W, hW⟩ : ∃ W, W = w.alloc (.cells #[.int .i64 x0, .slice xA xl.length xc, .string x2] 34) := ⟨_, rfl⟩
  obtain ⟨j, hj⟩ : ∃ j, j = w.heap.size := ⟨_, rfl⟩
  have HBw : Aside0 (∀ V, w.grownBy V v.ownBlock → Below n0 w0 V) := ⟨fun V h => hw.grown h hsz (fun k hk => (hO.lt k hk).1)⟩
  have HGW : Aside0 (w.grownBy W v.ownBlock) := ⟨by rw [hW]; exact grown_alloc (grown_refl _ _) _⟩
  have HB : Aside0 (World.grownBy W W v.ownBlock) := ⟨grown_refl _ _⟩
  have X0 : Aside0 (W.heap[j]? = some (.cells #[.int .i64 x0, .slice xA xl.length xc, .string x2] 34)) := ⟨by rw [hW, hj]; exact Go.heap_alloc_new _ _⟩
  have Hne : Aside0 (v.ownBlock ≠ some j) := ⟨fun e => by
    have := (hO.lt j e).2
    omega⟩
  have HO : Aside0 (Own W n0 5 v (cs l)) := ⟨by rw [hW]; exact hO.alloc _⟩
  have Hj : Aside0 (j < W.heap.size ∧ n0 ≤ W.heap.size) := ⟨by rw [hW, hj]; simp; omega⟩
  have HwW : Aside0 (w.heap.size ≤ W.heap.size) := ⟨HGW.out.size⟩
  have HW := Aside0.mk hW
  have HJ := Aside0.mk hj
  clear hW hj hw hO hsz HX hn0
  go_enter Try.func37, Try.ntmps37
  go_wp2_with fail
  try rw [← HW.out]
  try rw [← HJ.out]
  clear HW HJ
  refine start_ (n := 11) (S := fun x_ => World.grownBy W x_ v.ownBlock) (ds := []) #[false, false, false, false, false, false, false, false, false, false, false] (by kernel_rfl) rfl rfl (grown_drewN (grown_refl _ v.ownBlock) 1) (fun hHeld => ?_)
  refine with_tabW tab_record_Put_1 bits_record_Put_1 (fun HT_ HW_ => ?_)
  have HB := Aside0.mk (grown_drewN HB.out 1)
  change Aside0 (World.grownBy _ (World.drew W) _) at HB
  change World.grownBy _ (World.drew W) _ at hHeld
  have hSz : (World.drew W).heap.size = W.heap.size := rfl
  have HB : Aside0 (World.grownBy (World.drew W) (World.drew W) v.ownBlock) := ⟨grown_refl _ _⟩
  have X0 := Aside0.mk (show (World.drew W).heap[j]? = _ from X0.out)
  have HO := Aside0.mk (show Own (World.drew W) n0 5 v (cs l) from HO.out)
  have Hj := Aside0.mk (show j < (World.drew W).heap.size ∧ n0 ≤ (World.drew W).heap.size from Hj.out)
  have HGW := Aside0.mk (show w.grownBy (World.drew W) v.ownBlock from grown_drewN HGW.out 1)
  have HwW := Aside0.mk (show w.heap.size ≤ (World.drew W).heap.size from HwW.out)
  refine wpAnyLast_str (S' := fun x_ => World.grownBy (World.drew W) x_ v.ownBlock) (fun x_ hx_ => World.grownBy.trans hHeld hx_) (grown_refl _ v.ownBlock) ?_
  clear hHeld hSz
  generalize World.drew W = Wd at *
  have HS := Aside0.mk (grown_refl Wd v.ownBlock)
  refine pure_ (i := 0) (N := (some 5)) (v := ?_) (a' := ?_) #[true, false, false, false, false, false, false, false, false, false, false] rfl rfl (any_of HT_.out (by kernel_rfl)) (fun _ _ _ h => h) (Or.inl ⟨by rfl, ?_⟩) ?_ ?_
  rotate_left
  · intro w_
    go_simp
    try with_reducible rfl
  rotate_left
  · simp only [Act.put, List.setIfInBounds_toArray, List.set_cons_zero, List.set_cons_succ, i64_w, i32_w]
    rfl
  refine pure_ (i := 1) (N := (some 6)) (v := ?_) (a' := ?_) #[true, true, false, false, false, false, false, false, false, false, false] rfl rfl (any_of HT_.out (by kernel_rfl)) (fun _ _ _ h => h) (Or.inl ⟨by rfl, ?_⟩) ?_ ?_
  rotate_left
  · intro w_
    go_simp
    try with_reducible rfl
  rotate_left
  · simp only [Act.put, List.setIfInBounds_toArray, List.set_cons_zero, List.set_cons_succ, i64_w, i32_w]
    rfl
  refine pure_ (i := 4) (N := (some 9)) (v := ?_) (a' := ?_) #[true, true, false, false, true, false, false, false, false, false, false] rfl rfl (any_of HT_.out (by kernel_rfl)) (fun _ _ _ h => h) (Or.inl ⟨by rfl, ?_⟩) ?_ ?_
  rotate_left
  · intro w_
    go_simp
    try with_reducible rfl
  rotate_left
  · simp only [Act.put, List.setIfInBounds_toArray, List.set_cons_zero, List.set_cons_succ, i64_w, i32_w]
    rfl
  refine pure_ (i := 7) (N := (some 12)) (v := ?_) (a' := ?_) #[true, true, false, false, true, false, false, true, false, false, false] rfl rfl (any_of HT_.out (by kernel_rfl)) (fun _ _ _ h => h) (Or.inl ⟨by rfl, ?_⟩) ?_ ?_
  rotate_left
  · intro w_
    go_simp
    try with_reducible rfl
  rotate_left
  · simp only [Act.put, List.setIfInBounds_toArray, List.set_cons_zero, List.set_cons_succ, i64_w, i32_w]
    rfl
  refine take_ (i := 2) (N := (some 7)) (v := ?_) (a' := ?_) #[true, true, true, false, true, false, false, true, false, false, false] rfl rfl (take_ofW HT_.out HW_.out (by kernel_rfl)) (fun _ _ _ h => h) (Or.inl ⟨by rfl, ?_⟩) (grown_refl _ v.ownBlock) ?_ ?_
  rotate_left
  · intro Wx hWx
    have hc := (blk_cell (grown_box hWx Hj.out.1 Hne.out X0.out) 0).trans rfl
    go_simp
    try with_reducible rfl
  rotate_left
  · simp only [Act.put, List.setIfInBounds_toArray, List.set_cons_zero, List.set_cons_succ, i64_w, i32_w]
    rfl
  refine take_ (i := 5) (N := (some 10)) (v := ?_) (a' := ?_) #[true, true, true, false, true, true, false, true, false, false, false] rfl rfl (take_ofW HT_.out HW_.out (by kernel_rfl)) (fun _ _ _ h => h) (Or.inl ⟨by rfl, ?_⟩) (grown_refl _ v.ownBlock) ?_ ?_
  rotate_left
  · intro Wx hWx
    have hc := (blk_cell (grown_box hWx Hj.out.1 Hne.out X0.out) 1).trans rfl
    go_simp
    try with_reducible rfl
  rotate_left
  · simp only [Act.put, List.setIfInBounds_toArray, List.set_cons_zero, List.set_cons_succ, i64_w, i32_w]
    rfl
  refine take_ (i := 8) (N := (some 13)) (v := ?_) (a' := ?_) #[true, true, true, false, true, true, false, true, true, false, false] rfl rfl (take_ofW HT_.out HW_.out (by kernel_rfl)) (fun _ _ _ h => h) (Or.inl ⟨by rfl, ?_⟩) (grown_refl _ v.ownBlock) ?_ ?_
  rotate_left
  · intro Wx hWx
    have hc := (blk_cell (grown_box hWx Hj.out.1 Hne.out X0.out) 2).trans rfl
    go_simp
    try with_reducible rfl
  rotate_left
  · simp only [Act.put, List.setIfInBounds_toArray, List.set_cons_zero, List.set_cons_succ, i64_w, i32_w]
    rfl
  refine one_ (i := 3) (N := (some 8)) #[true, true, true, true, true, true, false, true, true, false, false] rfl rfl (one_of HT_.out (by kernel_rfl)) (by decide) (fun K hK => ?_)
  refine goes_ Try.func66 (by kernel_rfl) rfl #[v, .int .i64 x0] (by rfl) rfl rfl (by (try simp only [List.map_toArray, List.map_cons, List.map_nil]); first | done | rfl) ?_
  refine (int_any n0 v l x0 Wd HO.out Hj.out.2 (by have := HL.out; omega) H0.out.1 H0.out.2).mono ?_
  rintro e w1_3 ⟨v2, rfl, h2_, h3_, h4_⟩
  refine ⟨_, rfl, ?_⟩
  have HN2 := Aside0.mk h4_
  have HO := Aside0.mk h2_
  have HSz := Aside0.mk h3_.size
  have HG2 := Aside0.mk (HGW.out.trans h3_)
  have Hj2 := Aside0.mk (Nat.le_trans Hj.out.2 h3_.size)
  have hb_ : World.grownBy Wd w1_3 v.ownBlock := h3_
  have HB := Aside0.mk (World.grownBy.trans HB.out hb_)
  refine hK.out _ _ hb_ (fun hHeld => ?_)
  clear hK K
  refine wpAnyLast_str (S' := fun x_ => World.grownBy w1_3 x_ v2.ownBlock) (fun x_ hx_ => grown_then hHeld hx_ HN2.out) (grown_refl _ v2.ownBlock) ?_
  clear hHeld
  (try clear hb)
  clear hb_
  have HS := Aside0.mk (grown_refl w1_3 v2.ownBlock)
  refine norm_ (a' := ?_) ?_ ?_
  rotate_left
  · show Act.put _ (some 8) _ = _
    simp only [Act.put, List.setIfInBounds_toArray, List.set_cons_zero, List.set_cons_succ, i64_w, i32_w]
    rfl
  refine one_ (i := 6) (N := (some 11)) #[true, true, true, true, true, true, true, true, true, false, false] rfl rfl (one_of HT_.out (by kernel_rfl)) (by decide) (fun K hK => ?_)
  refine goes_ Try.func60 (by kernel_rfl) rfl #[v2, .slice xA xl.length xc] (by rfl) rfl rfl (by (try simp only [List.map_toArray, List.map_cons, List.map_nil]); first | done | rfl) ?_
  refine (HP.out w1_3 v2 (l ++ vint (zig x0)) (HBw.out _ HG2.out) HO.out (by have := HL.out; have := vint_le10 (zig_lt H0.out.1 H0.out.2); rw [List.length_append]; omega)).mono ?_
  rintro e w1_6 ⟨v3, rfl, h2_, h3_, h4_⟩
  refine ⟨_, rfl, ?_⟩
  have HN3 := Aside0.mk (HN2.out.trans h4_ HSz.out)
  have HO := Aside0.mk h2_
  have HSz := Aside0.mk (Nat.le_trans HSz.out h3_.size)
  have Hj2 := Aside0.mk (Nat.le_trans Hj2.out h3_.size)
  have HN23 := Aside0.mk h4_
  have hb_ : World.grownBy w1_3 w1_6 v2.ownBlock := h3_
  have HB := Aside0.mk (grown_then HB.out hb_ HN2.out)
  refine hK.out _ _ hb_ (fun hHeld => ?_)
  clear hK K
  refine wpAnyLast_str (S' := fun x_ => World.grownBy w1_6 x_ v3.ownBlock) (fun x_ hx_ => grown_then hHeld hx_ HN23.out) (grown_refl _ v3.ownBlock) ?_
  clear hHeld
  (try clear hb)
  clear hb_
  have HS := Aside0.mk (grown_refl w1_6 v3.ownBlock)
  refine norm_ (a' := ?_) ?_ ?_
  rotate_left
  · show Act.put _ (some 11) _ = _
    simp only [Act.put, List.setIfInBounds_toArray, List.set_cons_zero, List.set_cons_succ, i64_w, i32_w]
    rfl
  refine one_ (i := 9) (N := (some 14)) #[true, true, true, true, true, true, true, true, true, true, false] rfl rfl (one_of HT_.out (by kernel_rfl)) (by decide) (fun K hK => ?_)
  refine goes_ Try.func65 (by kernel_rfl) rfl #[v3, .string x2] (by rfl) rfl rfl (by (try simp only [List.map_toArray, List.map_cons, List.map_nil]); first | done | rfl) ?_
  refine (text_any n0 v3 (l ++ vint (zig x0) ++ putB xl) x2 w1_6 HO.out Hj2.out (by have := HL.out; have := putB_len xl HSh.out; have := vint_le10 (zig_lt H0.out.1 H0.out.2); rw [List.length_append, List.length_append]; omega) (by have := HLn.out; omega)).mono ?_
  rintro e w1_9 ⟨v4, rfl, h2_, h3_, h4_⟩
  refine ⟨_, rfl, ?_⟩
  have HN4 := Aside0.mk (HN3.out.trans h4_ HSz.out)
  have HO := Aside0.mk h2_
  have hb_ : World.grownBy w1_6 w1_9 v3.ownBlock := h3_
  have HB := Aside0.mk (grown_then HB.out hb_ HN3.out)
  refine hK.out _ _ hb_ (fun hHeld => ?_)
  clear hK K
  refine wpAnyLast_str (S' := fun x_ => World.grownBy w1_9 x_ v3.ownBlock) (fun x_ hx_ => World.grownBy.trans hHeld hx_) (grown_refl _ v3.ownBlock) ?_
  clear hHeld
  (try clear hb)
  clear hb_
  have HS := Aside0.mk (grown_refl w1_9 v3.ownBlock)
  refine norm_ (a' := ?_) ?_ ?_
  rotate_left
  · show Act.put _ (some 14) _ = _
    simp only [Act.put, List.setIfInBounds_toArray, List.set_cons_zero, List.set_cons_succ, i64_w, i32_w]
    rfl
  refine pure_ (i := 10) (N := (some 4)) (v := ?_) (a' := ?_) #[true, true, true, true, true, true, true, true, true, true, true] rfl rfl (any_of HT_.out (by kernel_rfl)) (fun _ _ _ h => h) (Or.inl ⟨by rfl, ?_⟩) ?_ ?_
  rotate_left
  · intro w_
    go_simp
    try with_reducible rfl
  rotate_left
  · simp only [Act.put, List.setIfInBounds_toArray, List.set_cons_zero, List.set_cons_succ, i64_w, i32_w]
    rfl
  refine done_ (done_of HT_.out (by kernel_rfl)) ?_
  go_wp2_with fail
  go_ret
  refine ⟨v4, rfl, ?_, grown_then HGW.out HB.out (Near.refl _ _), (Near.refl w v).trans HN4.out HwW.out⟩
  have := HO.out
  unfold entB Ent.key
  simp only [List.append_assoc] at this ⊢
  exact this
end Go.Proofs.Ytfejjfbhlmjkeaa.C
