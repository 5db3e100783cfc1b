/- The walk of the law NumReads. -/
import Derived.Test.YtahjpeihekphcaaR4
import Derived.Test.YtahjpeihekphcaaOpen
set_option linter.unusedVariables false
set_option linter.unusedSimpArgs false
namespace Go.Proofs.Ytahjpeihekphcaa.N
open Go.RowKit Go.Proofs.YtahjpeihekphcaaW.PrintWords Go.Proofs.YtahjpeihekphcaaW.PrintLast Go.Proofs.Ytahjpeihekphcaa.Bt Go.Proofs.Ytahjpeihekphcaa.B Go.Proofs.Ytahjpeihekphcaa.Vi Go.Proofs.Ytahjpeihekphcaa.Reg

theorem same_any (g b mb : Nat) (S : ByteArray) (st : Option (List UInt8)) (kind : Int) (most : Nat) (hne : g ≠ mb ∧ b ≠ mb) (hs : S.size ≤ 4611686018427) (hm : most < 18446744073709551616) :
    ∃ st2, ∀ w, RS w g b st → MR w mb S st → Calls Try.prog 37 #[.pointer (some ⟨g, 0, none⟩), .pointer (some ⟨mb, 0, none⟩), .agg #[.int .i64 kind, .int .u64 (most : Int)]] w fun e w' => e = .returned (.bool true) ∧ RS w' g b st2 ∧ MR w' mb S st2 ∧ Gr2 g mb w w' := by
  have hx : most % 1000000 ≤ 4611686018427 := by omega
  have he : max ((most : Int) % 1000000) 0 = ((most % 1000000 : Nat) : Int) := by omega
  have he2 : max (-((most : Int) % 1000000)) 0 = ((0 : Nat) : Int) := by omega
  by_cases k0 : kind = 0
  · exact ⟨_, fun w hR hM => same_c0 g b mb S st _ kind most w hR hM hne (by simpa using k0) _ ⟨fun W h => ru g b st most W hm h⟩ ⟨fun W h => mu mb S st most W hs hm h⟩⟩
  have h0 : (kind == 0) = false := by simpa using k0
  by_cases k1 : kind = 1
  · exact ⟨_, fun w hR hM => same_c1 g b mb S st _ kind most w hR hM hne h0 (by simpa using k1) _ ⟨fun W h => ri g b st W h⟩ ⟨fun W h => mi mb S st W hs h⟩⟩
  have h1 : (kind == 1) = false := by simpa using k1
  by_cases k2 : kind = 2
  · exact ⟨_, fun w hR hM => same_c2 g b mb S st _ kind most w hR hM hne h0 h1 (by simpa using k2) _ ⟨fun W h => rt g b st _ (most % 1000000) W he hx h⟩ ⟨fun W h => mt mb S st _ (most % 1000000) W he hx hs h⟩⟩
  have h2 : (kind == 2) = false := by simpa using k2
  by_cases k3 : kind = 3
  · exact ⟨_, fun w hR hM => same_c3 g b mb S st _ kind most w hR hM hne h0 h1 h2 (by simpa using k3) _ ⟨fun W h => rt g b st _ 0 W he2 (by omega) h⟩ ⟨fun W h => mt mb S st _ 0 W (by omega) (by omega) hs h⟩⟩
  have h3 : (kind == 3) = false := by simpa using k3
  exact ⟨_, fun w hR hM => same_c4 g b mb S st _ kind most w hR hM hne h0 h1 h2 h3 (nxt 1 st).1 (decide ((nxt 1 st).1 = 1)) (by
    by_cases h : (nxt 1 st).1 = 1
    · rw [h]; rfl
    · rw [decide_eq_false h]
      simpa using (by omega : ¬ ((nxt 1 st).1 : Int) = 1)) ⟨fun W h => rb g b st W h⟩ ⟨fun W h => mu mb S st 1 W hs (by decide) h⟩⟩
theorem MR.cell2 {w : World} {mb : Nat} {S : ByteArray} {st : Option (List UInt8)} (h : MR w mb S st) : w.cell? ⟨mb, 2, none⟩ = some (.bool st.isNone) := by
  cases st with
  | none => obtain ⟨p, h1, _⟩ := h; exact h1.cell2
  | some l => obtain ⟨p, h1, _⟩ := h; exact h1.cell2
theorem mend (mb : Nat) (S : ByteArray) (st : Option (List UInt8)) (w : World) (h : MR w mb S st) : Calls Try.prog 38 #[.pointer (some ⟨mb, 0, none⟩)] w fun e w' => e = .returned (.bool (isEnd st)) ∧ Below w.heap.size w w' := by
  cases st with
  | none => obtain ⟨p, h1, _⟩ := h; exact mend_bad mb p S w h1
  | some l =>
    obtain ⟨p, h1, h2, rfl⟩ := h
    have he : isEnd (some (S.data.toList.drop p)) = ((p : Int) == (S.size : Int)) := by
      have hl : (S.data.toList.drop p).length = S.size - p := by rw [List.length_drop, data_length]
      cases hd : S.data.toList.drop p with
      | nil =>
        rw [hd] at hl
        have : (p : Int) = (S.size : Int) := by simp at hl; omega
        simp [isEnd, this]
      | cons x t =>
        rw [hd] at hl
        have : ¬ (p : Int) = (S.size : Int) := by simp at hl; omega
        simp [isEnd, this]
    rw [he]
    exact mend_good mb p S w h1
/-- A question. -/
structure Ak where
  kind : Int
  most : Nat
/-- One that lies at a place. -/
def AkAt (w : World) (a : Addr) (x : Ak) : Prop := w.cell? a = some (.int .i64 x.kind) ∧ w.cell? ⟨a.block, a.off + 1, none⟩ = some (.int .u64 (x.most : Int))
theorem AkAt.below {w w' : World} {a : Addr} {x : Ak} (h : AkAt w a x) (hb : Below w.heap.size w w') : AkAt w' a x := ⟨pw_cell_below hb h.1, pw_cell_below hb h.2⟩
instance : Inhabited Ak := ⟨⟨0, 0⟩⟩
section
variable {H : Type} {enc : TypeId × Value → H} {w : World} {base : Nat} {spare : Nat → Bool} {held : Bool}
/-- A slice of questions, opened. -/
theorem open_asks {fuel : Nat} {cs : List Value} {x : DataW H × List MemPlace} (h : DataW.trod enc Try.prog w base spare held fuel 49 cs = some x) :
    ∃ (A : Option Addr) (cap : Nat) (xs : List Ak), cs = [.slice A xs.length cap] ∧ xs.length ≤ cap ∧ cap ≤ maxLen ∧ (A = none → xs = []) ∧ (∀ a, A = some a → ∀ i (hi : i < xs.length), AkAt w (a.add (i * 2)) xs[i]) ∧ ∀ x ∈ xs, x.most < 18446744073709551616 := by
  obtain ⟨A, len, cap, rfl, hl, hm, hnil, hel⟩ := Op.open_rows Try.underlying49 Try.underlying54 (by kernel_rfl) (by kernel_rfl) h
  cases A with
  | none =>
    obtain rfl := hnil rfl
    exact ⟨none, cap, [], rfl, Nat.zero_le _, hm, fun _ => rfl, fun a h => (by cases h), by simp⟩
  | some a =>
    obtain ⟨xs, rfl, hxs⟩ := Op.list_of (α := Ak) (n := len) (p := fun i x => AkAt w (a.add (i * 2)) x ∧ x.most < 18446744073709551616) (fun i hi => by
      obtain ⟨v0, n0, y0, c0, t0⟩ := hel a rfl i hi 0 _ rfl
      obtain ⟨v1, n1, y1, c1, t1⟩ := hel a rfl i hi 1 _ rfl
      obtain ⟨z0, e0, -, -⟩ := Go.DataW.trod_int Try.underlying3 t0
      obtain ⟨z1, e1, -, w1⟩ := Go.DataW.trod_int Try.underlying34 t1
      injection e0 with e0
      injection e1 with e1
      subst e0 e1
      obtain ⟨m, rfl, hm⟩ := nat_of_u64 w1
      exact ⟨⟨z0, m⟩, ⟨c0, c1⟩, hm⟩)
    refine ⟨some a, cap, xs, rfl, hl, hm, fun h => (by cases h), fun a' h i hi => ?_, fun x hx => ?_⟩
    · cases h
      exact (hxs i hi).1
    · obtain ⟨i, hi, rfl⟩ := List.mem_iff_getElem.1 hx
      exact (hxs i hi).2
end
theorem some_ofA {A : Option Addr} {xs : List Ak} {i : Nat} (h : A = none → xs = []) (hi : i < xs.length) : ∃ a, A = some a := by
  cases A with
  | none => rw [h rfl] at hi; simp at hi
  | some a => exact ⟨a, rfl⟩
def T_magpielaw01_NumReads_12 : Bool × List (List Nat × List Nat) := (true, [([], []), ([], []), ([], []), ([0, 1, 2], [0, 1, 2]), ([3], [3]), ([4, 3], [4]), ([5], [5]), ([6, 5, 5], [5, 6]), ([5], [5]), ([8, 5], [5, 8]), ([9, 5], [5, 9]), ([10, 5], [5, 10]), ([7, 11, 5], [5, 7, 11]), ([5, 12], [5, 12]), ([13, 7], [13]), ([14], [14]), ([15, 14, 14], [14, 15]), ([14], [14]), ([17, 16, 14], [14, 17]), ([16, 18, 14], [14, 16, 18]), ([14, 19], [14, 19])])
def B_magpielaw01_NumReads_12 : List Nat := [0, 0, 0, 7, 15, 31, 63, 127, 63, 319, 831, 1855, 4095, 8191, 16383, 32767, 65535, 32767, 262143, 524287, 1048575]
theorem tab_magpielaw01_NumReads_12 : rtab .any (opsOf Try.f9 12) = T_magpielaw01_NumReads_12 := by kernel_rfl
theorem bits_magpielaw01_NumReads_12 : waitsOk T_magpielaw01_NumReads_12.2 B_magpielaw01_NumReads_12 = true := by kernel_rfl
set_option maxRecDepth 20000 in
set_option maxHeartbeats 4000000 in
theorem numReads_walk (s : ByteArray) (A0 : Option Addr) (cap : Nat) (xs : List Ak) (w : World) (w0 : s.size ≤ 140737488351232) (w1 : xs.length ≤ cap ∧ cap ≤ maxLen ∧ (A0 = none → xs = []) ∧ (∀ a, A0 = some a → ∀ i (hi : i < xs.length), AkAt w (a.add (i * 2)) xs[i]) ∧ ∀ x ∈ xs, x.most < 18446744073709551616) :
    Calls Try.prog 9 #[.string s, .slice A0 xs.length cap] w fun e w' => e = .returned (.bool true) ∧ Below w.heap.size w w' := by
  have HW := Aside0.mk w1
  clear w1
  by_cases hlen : 2000 < s.size ∨ 200 < xs.length
  · by_cases h1 : 2000 < s.size
    · have c0 : decide (2000 < (s.size : Int)) = true := decide_eq_true (by omega)
      go_enter Try.func9, Try.ntmps9
      go_wp2_with fail
      ((with_reducible refine (alive_any w).mono ?_); rintro e w1 ⟨rfl, hb⟩)
      have HB := Aside0.mk hb
      clear hb
      go_wp2_with fail
      go_ret
      exact ⟨rfl, HB.out⟩
    · have c0 : decide (2000 < (s.size : Int)) = false := decide_eq_false (by omega)
      have c1 : decide (200 < (xs.length : Int)) = true := decide_eq_true (by omega)
      go_enter Try.func9, Try.ntmps9
      go_wp2_with fail
      ((with_reducible refine (alive_any w).mono ?_); rintro e w1 ⟨rfl, hb⟩)
      have HB := Aside0.mk hb
      clear hb
      go_wp2_with fail
      go_ret
      exact ⟨rfl, HB.out⟩
  have c0 : decide (2000 < (s.size : Int)) = false := decide_eq_false (by omega)
  have c1 : decide (200 < (xs.length : Int)) = false := decide_eq_false (by omega)
  have Hsm : Aside0 (s.size ≤ 2000 ∧ xs.length ≤ 200) := ⟨by omega⟩
  clear hlen w0
  go_enter Try.func9, Try.ntmps9
  go_wp2_with fail
  ((with_reducible refine (alive_any w).mono ?_); rintro e w1 ⟨rfl, hb⟩)
  have HB := Aside0.mk hb
  clear hb
  go_wp2_with fail
  ((with_reducible refine (from_any s w1 (by have := Hsm.out; omega)).mono ?_); rintro e w2 ⟨g, b, rfl, hR, hb, hg, hbb, hbg⟩)
  have hlt := hR.lt
  have HB2 := Aside0.mk (below_alloc (below_step HB.out hb) (.cells #[.string s, .int .i64 0, .bool false] 52))
  have HR := Aside0.mk (hR.kept (World.grownBy_alloc w2 (.cells #[.string s, .int .i64 0, .bool false] 52) none) (by simp) (by simp))
  have HM : Aside0 (MR (w2.alloc (.cells #[.string s, .int .i64 0, .bool false] 52)) w2.heap.size s (some s.data.toList)) := ⟨⟨0, Go.heap_alloc_new w2 _, Nat.zero_le _, by simp⟩⟩
  have Hg := Aside0.mk (show w.heap.size ≤ g ∧ w.heap.size ≤ w2.heap.size ∧ g ≠ w2.heap.size ∧ b ≠ w2.heap.size by
    have h1 := below_size HB.out
    have h2 := below_size (below_step HB.out hb)
    exact ⟨by omega, by omega, by omega, by omega⟩)
  clear hb hR hg hbb hbg HB hlt
  go_wp2_with fail
  ((with_reducible refine (ruint_nil _ _).mono ?_); rintro e w3 ⟨rfl, rfl⟩)
  go_wp2_with fail
  ((with_reducible refine (ri_nil _).mono ?_); rintro e w3 ⟨rfl, rfl⟩)
  go_wp2_with fail
  ((with_reducible refine (rt_nil _ _).mono ?_); rintro e w3 ⟨rfl, rfl⟩)
  go_wp2_with fail
  ((with_reducible refine (rb_nil _).mono ?_); rintro e w3 ⟨rfl, rfl⟩)
  go_wp2_with fail
  ((with_reducible refine (rbad_nil _).mono ?_); rintro e w3 ⟨rfl, rfl⟩)
  go_wp2_with fail
  ((with_reducible refine (rend_nil _).mono ?_); rintro e w3 ⟨rfl, rfl⟩)
  go_wp2_with fail
  obtain ⟨W0, hW0⟩ : ∃ W0, W0 = w2.alloc (.cells #[.string s, .int .i64 0, .bool false] 52) := ⟨_, rfl⟩
  obtain ⟨mb, hmb⟩ : ∃ mb, mb = w2.heap.size := ⟨_, rfl⟩
  rw [← hW0, ← hmb] at HM
  rw [← hW0] at HR HB2
  rw [← hmb] at Hg
  rw [← hW0, ← hmb]
  clear hW0 hmb
  have HG0 := Aside0.mk (Gr2.refl (g := g) (m := mb) W0)
  go_loopw [53] (fun t53 wr => ∃ (i : Nat) (st : Option (List UInt8)), i ≤ xs.length ∧ t53 = .int .i64 (i : Int) ∧ Aside0 (RS wr g b st) ∧ Aside0 (MR wr mb s st) ∧ Aside0 (Gr2 g mb W0 wr)) (fun t53 _ => xs.length - (intOf t53).toNat)
  case atStart => exact ⟨0, _, Nat.zero_le _, rfl, HR, HM, HG0⟩
  case round =>
    clear HR HM HG0
    obtain ⟨i, st, hi, rfl, HR, HM, HG⟩ := hrel
    have hl200 := Hsm.out.2
    have HBr := Aside0.mk (HG.out.below HB2.out (below_size HB2.out) Hg.out.1 Hg.out.2.1)
    by_cases hlt : i < xs.length
    · obtain ⟨a, rfl⟩ := some_ofA HW.out.2.2.1 hlt
      have hcell := (HW.out.2.2.2.1 a rfl i hlt).below HBr.out
      obtain ⟨x, hxe⟩ : ∃ x, x = xs[i] := ⟨_, rfl⟩
      have Hmost : Aside0 (x.most < 18446744073709551616) := ⟨HW.out.2.2.2.2 x (by rw [hxe]; exact List.getElem_mem hlt)⟩
      rw [← hxe] at hcell
      obtain ⟨k1, k2⟩ := hcell
      obtain ⟨st2, hsame⟩ := same_any g b mb s st x.kind x.most Hg.out.2.2 (by have := Hsm.out.1; omega) Hmost.out
      have HC := Aside0.mk hsame
      obtain ⟨o, ho⟩ : ∃ o, o = (Obj.cells #[.int .i64 x.kind, .int .u64 (x.most : Int)] 54) := ⟨_, rfl⟩
      obtain ⟨W, hW⟩ : ∃ W, W = wr.alloc o := ⟨_, rfl⟩
      have HB : Aside0 (Gr2 g mb W0 W) := ⟨by rw [hW]; exact Gr2.trans HG.out (Gr2.of0 (World.grownBy_alloc wr o none))⟩
      have hlt1 := HR.out.lt
      have hlt2 := HM.out.lt
      have HR1 : Aside0 (RS W g b st) := ⟨by rw [hW]; exact HR.out.kept (World.grownBy_alloc wr o none) (by simp) (by simp)⟩
      have HM1 : Aside0 (MR W mb s st) := ⟨by rw [hW]; exact HM.out.kept (World.grownBy_alloc wr o none) (by simp)⟩
      have HX : Aside0 (Ax W wr.heap.size x.kind x.most) := ⟨by rw [hW, ho]; exact Ax.new wr x.kind x.most⟩
      obtain ⟨j, hj⟩ : ∃ j, j = wr.heap.size := ⟨_, rfl⟩
      have Hj : Aside0 (j ≠ g ∧ j ≠ mb) := ⟨⟨by omega, by omega⟩⟩
      rw [← hj] at HX
      rw [ho] at hW
      have HWe := Aside0.mk hW
      have HJ := Aside0.mk hj
      clear hW ho hj hlt1 hlt2 hsame HR HM HG HBr hxe
      go_wp2_with fail
      try rw [← HWe.out]
      try rw [← HJ.out]
      clear HWe HJ k1 k2
      refine start_ (n := 21) (S := fun x_ => Gr2 g mb W x_) (ds := []) #[false, false, false, false, false, false, false, false, false, false, false, false, false, false, false, false, false, false, false, false, false] (by kernel_rfl) rfl rfl (Gr2.drew (Gr2.refl _)) (fun hHeld => ?_)
      refine with_tabW tab_magpielaw01_NumReads_12 bits_magpielaw01_NumReads_12 (fun HT_ HW_ => ?_)
      have HB := Aside0.mk (Gr2.drew HB.out)
      change Aside0 (Gr2 g mb _ (World.drew W)) at HB
      change Gr2 g mb _ (World.drew W) at hHeld
      have hSz : (World.drew W).heap.size = W.heap.size := rfl
      have HR1 := Aside0.mk (show RS (World.drew W) g b st from HR1.out)
      have HM1 := Aside0.mk (show MR (World.drew W) mb s st from HM1.out)
      have HX := Aside0.mk (show Ax (World.drew W) j x.kind x.most from HX.out)
      refine wpAnyLast_str (S' := fun x_ => Gr2 g mb (World.drew W) x_) (fun x_ hx_ => Gr2.trans hHeld hx_) (Gr2.refl _) ?_
      clear hHeld hSz
      generalize World.drew W = Wd at *
      have HS := Aside0.mk (show Gr2 g mb Wd Wd from Gr2.refl Wd)
      refine pure_ (i := 0) (N := (some 57)) (v := ?_) (a' := ?_) #[true, false, false, false, false, false, false, false, false, false, false, false, false, false, false, false, false, false, false, false, false] rfl rfl (any_of HT_.out (by kernel_rfl)) (fun _ _ _ h => h) (Or.inl ⟨by rfl, ?_⟩) ?_ ?_
      rotate_left
      · intro w_
        go_simp
        try with_reducible rfl
      rotate_left
      · simp only [Act.put, List.setIfInBounds_toArray, List.set_cons_zero, List.set_cons_succ, i64_w, i32_w]
        rfl
      refine pure_ (i := 1) (N := (some 58)) (v := ?_) (a' := ?_) #[true, true, false, false, false, false, false, false, false, false, false, false, false, false, false, false, false, false, false, false, false] rfl rfl (any_of HT_.out (by kernel_rfl)) (fun _ _ _ h => h) (Or.inl ⟨by rfl, ?_⟩) ?_ ?_
      rotate_left
      · intro w_
        go_simp
        try with_reducible rfl
      rotate_left
      · simp only [Act.put, List.setIfInBounds_toArray, List.set_cons_zero, List.set_cons_succ, i64_w, i32_w]
        rfl
      refine take_ (i := 2) (N := (some 59)) (v := ?_) (a' := ?_) #[true, true, true, false, false, false, false, false, false, false, false, false, false, false, false, false, false, false, false, false, false] rfl rfl (take_ofW HT_.out HW_.out (by kernel_rfl)) (fun _ _ _ h => h) (Or.inl ⟨by rfl, ?_⟩) (Gr2.refl _) ?_ ?_
      rotate_left
      · intro Wx hWx
        have hc := (HX.out.kept hWx Hj.out).cell0
        have hc1 := (HX.out.kept hWx Hj.out).cell1
        go_simp
        try with_reducible rfl
      rotate_left
      · simp only [Act.put, List.setIfInBounds_toArray, List.set_cons_zero, List.set_cons_succ, i64_w, i32_w]
        rfl
      refine one_ (i := 3) (N := (some 60)) #[true, true, true, true, false, false, false, false, false, false, false, false, false, false, false, false, false, false, false, false, false] rfl rfl (one_of HT_.out (by kernel_rfl)) (by decide) (fun K hK => ?_)
      refine goes_ Try.func37 (by kernel_rfl) rfl #[.pointer (some ⟨g, 0, none⟩), .pointer (some ⟨mb, 0, none⟩), .agg #[.int .i64 x.kind, .int .u64 (x.most : Int)]] (by rfl) rfl rfl (by (try simp only [List.map_toArray, List.map_cons, List.map_nil]); first | done | rfl) ?_
      refine (HC.out _ HR1.out HM1.out).mono ?_
      rintro e w12_3 ⟨rfl, hr_, hm_, hg_⟩
      refine ⟨_, rfl, ?_⟩
      have HR2 := Aside0.mk hr_
      have HM2 := Aside0.mk hm_
      clear hr_ hm_ HC
      have hb_ : Gr2 g mb Wd w12_3 := hg_
      have HB := Aside0.mk (Gr2.trans HB.out hb_)
      refine hK.out _ _ hb_ (fun hHeld => ?_)
      clear hK K
      refine wpAnyLast_str (S' := fun x_ => World.grownBy w12_3 x_ none) (fun x_ hx_ => Gr2.trans hHeld (Gr2.of0 hx_)) (grown_refl _ none) ?_
      clear hHeld
      (try clear hb)
      clear hb_
      have HS := Aside0.mk (grown_refl w12_3 none)
      refine norm_ (a' := ?_) ?_ ?_
      rotate_left
      · show Act.put _ (some 60) _ = _
        simp only [Act.put, List.setIfInBounds_toArray, List.set_cons_zero, List.set_cons_succ, i64_w, i32_w]
        rfl
      refine pure_ (i := 4) (N := (some 61)) (v := ?_) (a' := ?_) #[true, true, true, true, true, false, false, false, false, false, false, false, false, false, false, false, false, false, false, false, false] rfl rfl (any_of HT_.out (by kernel_rfl)) (fun _ _ _ h => h) (Or.inl ⟨by rfl, ?_⟩) ?_ ?_
      rotate_left
      · intro w_
        go_simp
        try with_reducible rfl
      rotate_left
      · simp only [Act.put, List.setIfInBounds_toArray, List.set_cons_zero, List.set_cons_succ, i64_w, i32_w]
        rfl
      refine pure_ (i := 5) (N := (some 62)) (v := ?_) (a' := ?_) #[true, true, true, true, true, true, false, false, false, false, false, false, false, false, false, false, false, false, false, false, false] rfl rfl (any_of HT_.out (by kernel_rfl)) (fun _ _ _ h => h) (Or.inl ⟨by rfl, ?_⟩) ?_ ?_
      rotate_left
      · intro w_
        go_simp
        try with_reducible rfl
      rotate_left
      · simp only [Act.put, List.setIfInBounds_toArray, List.set_cons_zero, List.set_cons_succ, i64_w, i32_w]
        rfl
      refine pure_ (i := 6) (N := (some 63)) (v := ?_) (a' := ?_) #[true, true, true, true, true, true, true, false, false, false, false, false, false, false, false, false, false, false, false, false, false] rfl rfl (any_of HT_.out (by kernel_rfl)) (fun _ _ _ h => h) (Or.inl ⟨by rfl, ?_⟩) ?_ ?_
      rotate_left
      · intro w_
        go_simp
        try with_reducible rfl
      rotate_left
      · simp only [Act.put, List.setIfInBounds_toArray, List.set_cons_zero, List.set_cons_succ, i64_w, i32_w]
        rfl
      refine pure_ (i := 8) (N := (some 65)) (v := ?_) (a' := ?_) #[true, true, true, true, true, true, true, false, true, false, false, false, false, false, false, false, false, false, false, false, false] rfl rfl (any_of HT_.out (by kernel_rfl)) (fun _ _ _ h => h) (Or.inl ⟨by rfl, ?_⟩) ?_ ?_
      rotate_left
      · intro w_
        go_simp
        try with_reducible rfl
      rotate_left
      · simp only [Act.put, List.setIfInBounds_toArray, List.set_cons_zero, List.set_cons_succ, i64_w, i32_w]
        rfl
      refine pure_ (i := 9) (N := (some 66)) (v := ?_) (a' := ?_) #[true, true, true, true, true, true, true, false, true, true, false, false, false, false, false, false, false, false, false, false, false] rfl rfl (any_of HT_.out (by kernel_rfl)) (fun _ _ _ h => h) (Or.inl ⟨by rfl, ?_⟩) ?_ ?_
      rotate_left
      · intro w_
        go_simp
        try with_reducible rfl
      rotate_left
      · simp only [Act.put, List.setIfInBounds_toArray, List.set_cons_zero, List.set_cons_succ, i64_w, i32_w]
        rfl
      refine pure_ (i := 10) (N := (some 67)) (v := ?_) (a' := ?_) #[true, true, true, true, true, true, true, false, true, true, true, false, false, false, false, false, false, false, false, false, false] rfl rfl (any_of HT_.out (by kernel_rfl)) (fun _ _ _ h => h) (Or.inl ⟨by rfl, ?_⟩) ?_ ?_
      rotate_left
      · intro w_
        go_simp
        try with_reducible rfl
      rotate_left
      · simp only [Act.put, List.setIfInBounds_toArray, List.set_cons_zero, List.set_cons_succ, i64_w, i32_w]
        rfl
      refine take_ (i := 11) (N := (some 68)) (v := ?_) (a' := ?_) #[true, true, true, true, true, true, true, false, true, true, true, true, false, false, false, false, false, false, false, false, false] rfl rfl (take_ofW HT_.out HW_.out (by kernel_rfl)) (fun _ _ _ h => h) (Or.inl ⟨by rfl, ?_⟩) (grown_refl _ none) ?_ ?_
      rotate_left
      · intro Wx hWx
        have hc := (HM2.out.kept hWx (by simp)).cell2
        go_simp
        try with_reducible rfl
      rotate_left
      · simp only [Act.put, List.setIfInBounds_toArray, List.set_cons_zero, List.set_cons_succ, i64_w, i32_w]
        rfl
      refine one_ (i := 7) (N := (some 64)) #[true, true, true, true, true, true, true, true, true, true, true, true, false, false, false, false, false, false, false, false, false] rfl rfl (one_of HT_.out (by kernel_rfl)) (by decide) (fun K hK => ?_)
      refine goes_ Try.func27 (by kernel_rfl) rfl #[.pointer (some ⟨g, 0, none⟩)] (by rfl) rfl rfl (by (try simp only [List.map_toArray, List.map_cons, List.map_nil]); first | done | rfl) ?_
      refine (rbad g b _ _ HR2.out).mono ?_
      rintro e w12_7 ⟨rfl, hw_⟩
      refine ⟨_, rfl, ?_⟩
      have HR2 := Aside0.mk (hw_ ▸ HR2.out)
      have HM2 := Aside0.mk (hw_ ▸ HM2.out)
      have hb_ : World.grownBy w12_3 w12_7 none := hw_ ▸ grown_refl _ _
      have HB := Aside0.mk (Gr2.trans HB.out (Gr2.of0 hb_))
      refine hK.out _ _ hb_ (fun hHeld => ?_)
      clear hK K
      refine wpAnyLast_str (S' := fun x_ => World.grownBy w12_7 x_ none) (fun x_ hx_ => World.grownBy.trans hHeld hx_) (grown_refl _ none) ?_
      clear hHeld
      (try clear hb)
      clear hb_
      have HS := Aside0.mk (grown_refl w12_7 none)
      refine norm_ (a' := ?_) ?_ ?_
      rotate_left
      · show Act.put _ (some 64) _ = _
        simp only [Act.put, List.setIfInBounds_toArray, List.set_cons_zero, List.set_cons_succ, i64_w, i32_w]
        rfl
      refine pure_ (i := 12) (N := (some 69)) (v := ?_) (a' := ?_) #[true, true, true, true, true, true, true, true, true, true, true, true, true, false, false, false, false, false, false, false, false] rfl rfl (any_of HT_.out (by kernel_rfl)) (fun _ _ _ h => h) (Or.inl ⟨by rfl, ?_⟩) ?_ ?_
      rotate_left
      · intro w_
        go_simp
        try with_reducible rfl
      rotate_left
      · simp only [Act.put, List.setIfInBounds_toArray, List.set_cons_zero, List.set_cons_succ, i64_w, i32_w]
        rfl
      refine pure_ (i := 13) (N := (some 70)) (v := ?_) (a' := ?_) #[true, true, true, true, true, true, true, true, true, true, true, true, true, true, false, false, false, false, false, false, false] rfl rfl (any_of HT_.out (by kernel_rfl)) (fun _ _ _ h => h) (Or.inl ⟨by rfl, ?_⟩) ?_ ?_
      rotate_left
      · intro w_
        go_simp
        try with_reducible rfl
      rotate_left
      · simp only [Act.put, List.setIfInBounds_toArray, List.set_cons_zero, List.set_cons_succ, i64_w, i32_w]
        rfl
      refine pure_ (i := 14) (N := (some 71)) (v := ?_) (a' := ?_) #[true, true, true, true, true, true, true, true, true, true, true, true, true, true, true, false, false, false, false, false, false] rfl rfl (any_of HT_.out (by kernel_rfl)) (fun _ _ _ h => h) (Or.inl ⟨by rfl, ?_⟩) ?_ ?_
      rotate_left
      · intro w_
        go_simp
        try with_reducible rfl
      rotate_left
      · simp only [Act.put, List.setIfInBounds_toArray, List.set_cons_zero, List.set_cons_succ, i64_w, i32_w]
        rfl
      refine pure_ (i := 15) (N := (some 72)) (v := ?_) (a' := ?_) #[true, true, true, true, true, true, true, true, true, true, true, true, true, true, true, true, false, false, false, false, false] rfl rfl (any_of HT_.out (by kernel_rfl)) (fun _ _ _ h => h) (Or.inl ⟨by rfl, ?_⟩) ?_ ?_
      rotate_left
      · intro w_
        go_simp
        try with_reducible rfl
      rotate_left
      · simp only [Act.put, List.setIfInBounds_toArray, List.set_cons_zero, List.set_cons_succ, i64_w, i32_w]
        rfl
      refine pure_ (i := 17) (N := (some 74)) (v := ?_) (a' := ?_) #[true, true, true, true, true, true, true, true, true, true, true, true, true, true, true, true, false, true, false, false, false] rfl rfl (any_of HT_.out (by kernel_rfl)) (fun _ _ _ h => h) (Or.inl ⟨by rfl, ?_⟩) ?_ ?_
      rotate_left
      · intro w_
        go_simp
        try with_reducible rfl
      rotate_left
      · simp only [Act.put, List.setIfInBounds_toArray, List.set_cons_zero, List.set_cons_succ, i64_w, i32_w]
        rfl
      refine one_ (i := 16) (N := (some 73)) #[true, true, true, true, true, true, true, true, true, true, true, true, true, true, true, true, true, true, false, false, false] rfl rfl (one_of HT_.out (by kernel_rfl)) (by decide) (fun K hK => ?_)
      refine goes_ Try.func26 (by kernel_rfl) rfl #[.pointer (some ⟨g, 0, none⟩)] (by rfl) rfl rfl (by (try simp only [List.map_toArray, List.map_cons, List.map_nil]); first | done | rfl) ?_
      refine (rend g b _ _ HR2.out).mono ?_
      rintro e w12_16 ⟨rfl, hw_⟩
      refine ⟨_, rfl, ?_⟩
      have HR2 := Aside0.mk (hw_ ▸ HR2.out)
      have HM2 := Aside0.mk (hw_ ▸ HM2.out)
      have hb_ : World.grownBy w12_7 w12_16 none := hw_ ▸ grown_refl _ _
      have HB := Aside0.mk (Gr2.trans HB.out (Gr2.of0 hb_))
      refine hK.out _ _ hb_ (fun hHeld => ?_)
      clear hK K
      refine wpAnyLast_str (S' := fun x_ => World.grownBy w12_16 x_ none) (fun x_ hx_ => World.grownBy.trans hHeld hx_) (grown_refl _ none) ?_
      clear hHeld
      (try clear hb)
      clear hb_
      have HS := Aside0.mk (grown_refl w12_16 none)
      refine norm_ (a' := ?_) ?_ ?_
      rotate_left
      · show Act.put _ (some 73) _ = _
        simp only [Act.put, List.setIfInBounds_toArray, List.set_cons_zero, List.set_cons_succ, i64_w, i32_w]
        rfl
      refine one_ (i := 18) (N := (some 75)) #[true, true, true, true, true, true, true, true, true, true, true, true, true, true, true, true, true, true, true, false, false] rfl rfl (one_of HT_.out (by kernel_rfl)) (by decide) (fun K hK => ?_)
      refine goes_ Try.func38 (by kernel_rfl) rfl #[.pointer (some ⟨mb, 0, none⟩)] (by rfl) rfl rfl (by (try simp only [List.map_toArray, List.map_cons, List.map_nil]); first | done | rfl) ?_
      refine (mend mb s _ _ HM2.out).mono ?_
      rintro e w12_18 ⟨rfl, hd_⟩
      refine ⟨_, rfl, ?_⟩
      have HR2 := Aside0.mk (HR2.out.kept (grown_of_below hd_ none) (by simp) (by simp))
      have HM2 := Aside0.mk (HM2.out.kept (grown_of_below hd_ none) (by simp))
      have hb_ : World.grownBy w12_16 w12_18 none := grown_of_below hd_ none
      have HB := Aside0.mk (Gr2.trans HB.out (Gr2.of0 hb_))
      refine hK.out _ _ hb_ (fun hHeld => ?_)
      clear hK K
      refine wpAnyLast_str (S' := fun x_ => World.grownBy w12_18 x_ none) (fun x_ hx_ => World.grownBy.trans hHeld hx_) (grown_refl _ none) ?_
      clear hHeld
      (try clear hb)
      clear hb_
      have HS := Aside0.mk (grown_refl w12_18 none)
      refine norm_ (a' := ?_) ?_ ?_
      rotate_left
      · show Act.put _ (some 75) _ = _
        simp only [Act.put, List.setIfInBounds_toArray, List.set_cons_zero, List.set_cons_succ, i64_w, i32_w]
        rfl
      refine pure_ (i := 19) (N := (some 76)) (v := ?_) (a' := ?_) #[true, true, true, true, true, true, true, true, true, true, true, true, true, true, true, true, true, true, true, true, false] rfl rfl (any_of HT_.out (by kernel_rfl)) (fun _ _ _ h => h) (Or.inl ⟨by rfl, ?_⟩) ?_ ?_
      rotate_left
      · intro w_
        go_simp
        try with_reducible rfl
      rotate_left
      · simp only [Act.put, List.setIfInBounds_toArray, List.set_cons_zero, List.set_cons_succ, i64_w, i32_w]
        rfl
      refine pure_ (i := 20) (N := (some 77)) (v := ?_) (a' := ?_) #[true, true, true, true, true, true, true, true, true, true, true, true, true, true, true, true, true, true, true, true, true] rfl rfl (any_of HT_.out (by kernel_rfl)) (fun _ _ _ h => h) (Or.inl ⟨by rfl, ?_⟩) ?_ ?_
      rotate_left
      · intro w_
        go_simp
        try with_reducible rfl
      rotate_left
      · simp only [Act.put, List.setIfInBounds_toArray, List.set_cons_zero, List.set_cons_succ, i64_w, i32_w]
        rfl
      refine done_ (done_of HT_.out (by kernel_rfl)) ?_
      go_wp2_with fail
      go_roundw
      case rel => exact ⟨i + 1, st2, by omega, by go_num, HR2, HM2, HB⟩
      case measure => simp [intOf]; omega
    · obtain rfl : i = xs.length := by omega
      go_wp2_with fail
      go_ret
      exact ⟨rfl, HBr.out⟩
end Go.Proofs.Ytahjpeihekphcaa.N
