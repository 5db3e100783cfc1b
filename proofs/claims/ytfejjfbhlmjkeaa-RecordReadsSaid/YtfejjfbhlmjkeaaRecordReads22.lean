/- Texts of this claim (printed ones, too), put together by a program that left out what the claim does not use. -/
import Derived.Test.YtfejjfbhlmjkeaaRecordReads20
import Derived.Test.YtfejjfbhlmjkeaaRecordReads21
import Derived.Test.YtfejjfbhlmjkeaaRecordReads17
import Derived.Test.YtfejjfbhlmjkeaaRecordReads19
section
set_option linter.unusedVariables false
set_option linter.unusedSimpArgs false
namespace Go.Proofs.Ytfejjfbhlmjkeaa.C
open Go.RowKit Go.Proofs.YtfejjfbhlmjkeaaW.PrintWords Go.Proofs.YtfejjfbhlmjkeaaW.PrintLast Go.Proofs.YtfejjfbhlmjkeaaW.PrintMore Go.Proofs.Ytfejjfbhlmjkeaa.B Go.Proofs.Ytfejjfbhlmjkeaa.Reg Go.Proofs.Ytfejjfbhlmjkeaa.PRecordIs Go.Proofs.Ytfejjfbhlmjkeaa.CQ Go.Proofs.Ytfejjfbhlmjkeaa.Vi Go.Proofs.Ytfejjfbhlmjkeaa.N Go.Proofs.Ytfejjfbhlmjkeaa.Bt
/-- All that is known in a round of the reference's Get. -/
structure InRef (w0 w : World) (g : Nat) (S : ByteArray) (j0 j : Nat) (st : St) (at_ : Int) (v : Value) (line : ByteArray) (xs : List S47) : Prop where
  rs : MR w g S st
  box : w.heap[j]? = some (.cells #[.int .i64 at_, v, .string line] 34)
  res : w.heap[j0]? = some (.cells #[.int .i64 0, .slice none 0 0, .string ⟨#[]⟩] 34)
  own : w.ownsRow (j + 1) 47 2 v xs.length (labC xs)
  grown : w0.grownBy w (some g)
  lt : g < w0.heap.size ∧ w0.heap.size ≤ j0 ∧ j0 < j ∧ j < w.heap.size
section
variable {w0 w : World} {g : Nat} {S : ByteArray} {j0 j : Nat} {st : St} {at_ : Int} {v : Value} {line : ByteArray} {xs : List S47}
theorem InRef.drew (h : InRef w0 w g S j0 j st at_ v line xs) : InRef w0 w.drew g S j0 j st at_ v line xs :=
  ⟨h.rs.kept (row := none) ⟨rfl, rfl, rfl, Nat.le_refl _, fun _ _ _ => rfl⟩ (by simp), h.box, h.res, h.own, grown_drewN h.grown 1, h.lt⟩
theorem InRef.read {w' : World} {st' : St} (h : InRef w0 w g S j0 j st at_ v line xs) (hr : MR w' g S st') (hg : w.grownBy w' (some g)) : InRef w0 w' g S j0 j st' at_ v line xs := by
  obtain ⟨l1, l3, l4, l5⟩ := h.lt
  exact ⟨hr, (hg.block j l5 (by simp; omega)).trans h.box, (hg.block j0 (by omega) (by simp; omega)).trans h.res, owns_kept h.own hg (fun k hk => by cases hk; omega), h.grown.trans hg, l1, l3, l4, Nat.lt_of_lt_of_le l5 hg.size⟩
theorem InRef.alloc (h : InRef w0 w g S j0 j st at_ v line xs) (o : Obj) : InRef w0 (w.alloc o) g S j0 j st at_ v line xs := by
  obtain ⟨l1, l3, l4, l5⟩ := h.lt
  have hg := World.grownBy_alloc w o none
  exact ⟨h.rs.kept hg (by simp), (hg.block j l5 (by simp)).trans h.box, (hg.block j0 (by omega) (by simp)).trans h.res, h.own.alloc o, grown_alloc h.grown o, l1, l3, l4, Nat.lt_of_lt_of_le l5 hg.size⟩
theorem InRef.below {w' : World} (h : InRef w0 w g S j0 j st at_ v line xs) (hb : Below w.heap.size w w') : InRef w0 w' g S j0 j st at_ v line xs := by
  obtain ⟨l1, l3, l4, l5⟩ := h.lt
  have hg := grown_of_below hb none
  exact ⟨h.rs.kept hg (by simp), (hg.block j l5 (by simp)).trans h.box, (hg.block j0 (by omega) (by simp)).trans h.res, owns_kept h.own hg (fun k hk => by cases hk), grown_new h.grown hg (fun k hk => by cases hk), l1, l3, l4, Nat.lt_of_lt_of_le l5 hg.size⟩
theorem InRef.more {w' : World} {v' : Value} {ys : List S47} (h : InRef w0 w g S j0 j st at_ v line xs) (hg : w.grownBy w' v.ownBlock) (hown : w'.ownsRow (j + 1) 47 2 v' ys.length (labC ys)) :
    InRef w0 (w'.setCell ⟨j, 1, none⟩ v') g S j0 j st at_ v' line ys := by
  obtain ⟨l1, l3, l4, l5⟩ := h.lt
  have hv := owns_block h.own
  have n : ∀ i, i ≤ j → v.ownBlock ≠ some i := fun i hi e => by have := hv i e; omega
  have hb : w'.heap[j]? = some (.cells #[.int .i64 at_, v, .string line] 34) := (hg.block j l5 (Ne.symm (n j (Nat.le_refl _)))).trans h.box
  have hs := grown_set w' j 1 v'
  refine ⟨(h.rs.kept hg (Ne.symm (n g (by omega)))).kept hs (by simp; omega), blk_set3 hb v', ?_, ownsRow_setCell_below hown (Nat.lt_succ_self j) v', ?_, l1, l3, l4, Nat.lt_of_lt_of_le l5 (Nat.le_trans hg.size hs.size)⟩
  · exact (hs.block j0 (by have := hg.size; omega) (by simp; omega)).trans ((hg.block j0 (by omega) (Ne.symm (n j0 (by omega)))).trans h.res)
  · exact grown_new (grown_new h.grown hg (fun k hk => by have := hv k hk; omega)) hs (fun k hk => by cases hk; omega)
theorem InRef.putLine (h : InRef w0 w g S j0 j st at_ v line xs) (s : ByteArray) : InRef w0 (w.setCell ⟨j, 2, none⟩ (.string s)) g S j0 j st at_ v s xs := by
  obtain ⟨l1, l3, l4, l5⟩ := h.lt
  have hs := grown_set w j 2 (.string s)
  exact ⟨h.rs.kept hs (by simp; omega), blk_set3c h.box _, (hs.block j0 (by omega) (by simp; omega)).trans h.res, ownsRow_setCell_below h.own (Nat.lt_succ_self j) _, grown_new h.grown hs (fun k hk => by cases hk; omega), l1, l3, l4, Nat.lt_of_lt_of_le l5 hs.size⟩
theorem InRef.time (h : InRef w0 w g S j0 j st at_ v line xs) (t : Int) : InRef w0 (w.setCell ⟨j, 0, none⟩ (.int .i64 t)) g S j0 j st t v line xs := by
  obtain ⟨l1, l3, l4, l5⟩ := h.lt
  have hs := grown_set w j 0 (.int .i64 t)
  exact ⟨h.rs.kept hs (by simp; omega), blk_set h.box 0 _, (hs.block j0 (by omega) (by simp; omega)).trans h.res, ownsRow_setCell_below h.own (Nat.lt_succ_self j) _, grown_new h.grown hs (fun k hk => by cases hk; omega), l1, l3, l4, Nat.lt_of_lt_of_le l5 hs.size⟩
end
theorem MR.cell2 {w : World} {mb : Nat} {S : ByteArray} {st : Option (List UInt8)} (h : MR w mb S st) : w.cell? ⟨mb, 2, none⟩ = some (.bool st.isNone) := by
  cases st with
  | none => obtain ⟨p, h1, _⟩ := h; exact h1.cell2
  | some l => obtain ⟨p, h1, _⟩ := h; exact h1.cell2
end Go.Proofs.Ytfejjfbhlmjkeaa.C
end
section
set_option linter.unusedVariables false
set_option linter.unusedSimpArgs false
namespace Go.Proofs.Ytfejjfbhlmjkeaa.C
open Go.RowKit Go.Proofs.YtfejjfbhlmjkeaaW.PrintWords Go.Proofs.YtfejjfbhlmjkeaaW.PrintLast Go.Proofs.YtfejjfbhlmjkeaaW.PrintMore Go.Proofs.Ytfejjfbhlmjkeaa.B Go.Proofs.Ytfejjfbhlmjkeaa.Reg Go.Proofs.Ytfejjfbhlmjkeaa.PRecordIs Go.Proofs.Ytfejjfbhlmjkeaa.CQ Go.Proofs.Ytfejjfbhlmjkeaa.Vi Go.Proofs.Ytfejjfbhlmjkeaa.N Go.Proofs.Ytfejjfbhlmjkeaa.Bt
def T_magpieref04_Get_8 : Bool × List (List Nat × List Nat) := (true, [([], []), ([0], [0]), ([], []), ([], []), ([3], [3]), ([2, 4], [2, 4]), ([5], [5]), ([1, 6, 4], [1, 6]), ([0, 1, 2, 3, 4, 5, 6, 7], []), ([8, 7, 7, 0, 1, 2, 3, 4, 5, 6, 7], [7, 8])])
def B_magpieref04_Get_8 : List Nat := [0, 1, 0, 0, 8, 28, 60, 127, 255, 511]
theorem tab_magpieref04_Get_8 : rtab .any (opsOf Try.f41 8) = T_magpieref04_Get_8 := by kernel_rfl
theorem bits_magpieref04_Get_8 : waitsOk T_magpieref04_Get_8.2 B_magpieref04_Get_8 = true := by kernel_rfl
set_option maxRecDepth 20000 in
set_option maxHeartbeats 8000000 in
theorem refGet_any (g : Nat) (S : ByteArray) (st : St) (w : World) (hR : MR w g S st) (hS : S.size ≤ 4611686018427) :
    Calls Try.prog 41 #[.pointer (some ⟨g, 0, none⟩)] w fun e w' => ∃ x : Ent, e = .returned (.tuple #[x.val, .bool (getOk st)]) ∧ x.In w' ∧ x.key = getKey st ∧ MR w' g S (getRaw st).2 ∧ w.grownBy w' (some g) := by
  have hlt := hR.lt
  obtain ⟨i1, hi1⟩ : ∃ i, i = nxt 18446744073709551615 st := ⟨_, rfl⟩
  obtain ⟨i2, hi2⟩ : ∃ i, i = nxt 4 i1.2 := ⟨_, rfl⟩
  obtain ⟨L, hL⟩ : ∃ l, l = getLabs i2.1 i2.2 := ⟨_, rfl⟩
  obtain ⟨t, ht⟩ : ∃ t, t = N.txt 200 L.2 := ⟨_, rfl⟩
  have HRaw : Aside0 (getRaw st = (⟨unzig i1.1, L.1, str t.1⟩, t.2)) := ⟨by rw [ht, hL, hi2, hi1]; rfl⟩
  have H2n : Aside0 (i2.1 ≤ 4) := ⟨by rw [hi2]; exact (nxt_lt 4 _).2⟩
  have HLs : Aside0 (L.1.length ≤ 4 ∧ ∀ x ∈ L.1, x.f0.size ≤ 20 ∧ x.f1.size ≤ 20) := ⟨by rw [hL]; exact ⟨by rw [getLabs_len]; exact H2n.out, getLabs_small _ _⟩⟩
  obtain ⟨W0, hW0⟩ : ∃ V, V = (w.alloc (.cells #[.int .i64 0, .slice none 0 0, .string ⟨#[]⟩] 34)).alloc (.cells #[.int .i64 0, .slice none 0 0, .string ⟨#[]⟩] 34) := ⟨_, rfl⟩
  obtain ⟨j0, hj0⟩ : ∃ j, j = w.heap.size := ⟨_, rfl⟩
  obtain ⟨j, hj⟩ : ∃ j, j = j0 + 1 := ⟨_, rfl⟩
  have HI : Aside0 (InRef w W0 g S j0 j st 0 (.slice none 0 0) ⟨#[]⟩ []) := ⟨by
    rw [hW0, hj, hj0]
    refine ⟨(hR.kept (World.grownBy_alloc w _ none) (by simp)).kept (World.grownBy_alloc _ _ none) (by simp), box1 w _ _, box0 w _ _, ⟨rfl, .inl ⟨rfl, rfl⟩⟩, grown_alloc (grown_alloc (grown_refl _ _) _) _, hlt, Nat.le_refl _, Nat.lt_succ_self _, by simp⟩⟩
  have H1 : Aside0 (Calls Try.prog 72 #[.pointer (some ⟨g, 0, none⟩)] W0 fun e w' => e = .returned (.int .i64 (unzig i1.1)) ∧ MR w' g S i1.2 ∧ W0.grownBy w' (some g)) := ⟨by rw [hi1]; exact mi g S st W0 hS HI.out.rs⟩
  have H2 : Aside0 (∀ V, MR V g S i1.2 → Calls Try.prog 73 #[.pointer (some ⟨g, 0, none⟩), .int .u64 4] V fun e w' => e = .returned (.int .u64 (i2.1 : Int)) ∧ MR w' g S i2.2 ∧ V.grownBy w' (some g)) := ⟨fun V h => by rw [hi2]; exact mu g S i1.2 4 V hS (by decide) h⟩
  have HT : Aside0 (∀ V, MR V g S L.2 → Calls Try.prog 74 #[.pointer (some ⟨g, 0, none⟩), .int .i64 200] V fun e w' => e = .returned (.string (str t.1)) ∧ MR w' g S t.2 ∧ V.grownBy w' (some g)) := ⟨fun V h => by rw [ht]; exact mt g S L.2 200 200 V (by decide) (by decide) hS h⟩
  have HL := Aside0.mk hL
  have HSz := Aside0.mk hS
  obtain ⟨at_, hat⟩ : ∃ a, a = unzig i1.1 := ⟨_, rfl⟩
  obtain ⟨n, hn⟩ : ∃ n, n = i2.1 := ⟨_, rfl⟩
  rw [← hat] at H1 HRaw
  rw [← hn] at H2 H2n HL
  have HWd := Aside0.mk hW0
  have HJd := Aside0.mk hj0
  have HJe := Aside0.mk hj
  clear hR hS hlt hi1 hi2 hL ht hW0 hj0 hj hat hn
  go_enter Try.func41, Try.ntmps41
  go_wp2_with fail
  try rw [← HWd.out]
  try rw [← HJd.out]
  try rw [← HJe.out]
  clear HWd HJd HJe
  ((refine H1.out.mono ?_); rintro e w1 ⟨rfl, hr1, hg1⟩)
  have HI := Aside0.mk (HI.out.read hr1 hg1)
  have x0 : w1.cell? ⟨j, 0, none⟩ = some (.int .i64 0) := blk_cell HI.out.box 0
  have y0 : w1.frozen? ⟨j, 0, none⟩ = false := blk_frozen HI.out.box 0
  obtain ⟨W1, hW1⟩ : ∃ V, V = w1.setCell ⟨j, 0, none⟩ (.int .i64 at_) := ⟨_, rfl⟩
  have HI : Aside0 (InRef w W1 g S j0 j i1.2 at_ (.slice none 0 0) ⟨#[]⟩ []) := ⟨by rw [hW1]; exact HI.out.time at_⟩
  have HWd := Aside0.mk hW1
  clear hr1 hg1 hW1 H1
  go_wp2_with fail
  try rw [← HWd.out]
  clear HWd x0 y0
  ((refine (H2.out _ HI.out.rs).mono ?_); rintro e w2 ⟨rfl, hr2, hg2⟩)
  have HI := Aside0.mk (HI.out.read hr2 hg2)
  clear hr2 hg2 H2
  go_wp2
  go_loopw [6] (fun t6 wr => ∃ (m i : Nat) (s : St) (v : Value) (acc : List S47), t6 = .int .u64 (i : Int) ∧ i + m = n ∧ Aside0 (acc.length = i) ∧ Aside0 (InRef w wr g S j0 j s at_ v ⟨#[]⟩ acc) ∧ Aside0 (acc ++ (getLabs m s).1 = L.1 ∧ (getLabs m s).2 = L.2)) (fun t6 _ => n - (intOf t6).toNat)
  case atStart => exact ⟨n, 0, i2.2, _, [], rfl, by omega, ⟨rfl⟩, HI, ⟨by rw [HL.out]; exact ⟨rfl, rfl⟩⟩⟩
  case round =>
    clear HI
    obtain ⟨m, i, s, v, acc, rfl, hmi, Hm, HI, HA⟩ := hrel
    obtain ⟨Av, cv, rfl, -, -⟩ := own_labels HI.out.own
    by_cases hm0 : m = 0
    · have HA2 : Aside0 (acc = L.1 ∧ s = L.2) := ⟨by have := HA.out; rw [hm0] at this; simpa [getLabs] using this⟩
      have d1 : decide (i < n) = false := decide_eq_false (by omega)
      have d2 : decide ((i : Int) < (n : Int)) = false := decide_eq_false (by omega)
      clear hm0 HA hmi
      have HI : Aside0 (InRef w wr g S j0 j L.2 at_ (.slice Av acc.length cv) ⟨#[]⟩ acc) := ⟨by rw [← HA2.out.2]; exact HI.out⟩
      go_wp2_with fail
      ((refine (HT.out _ HI.out.rs).mono ?_); rintro e w6 ⟨rfl, hr6, hg6⟩)
      have HI := Aside0.mk (HI.out.read hr6 hg6)
      clear hr6 hg6
      have x2 : w6.cell? ⟨j, 2, none⟩ = some (.string ⟨#[]⟩) := blk_cell HI.out.box 2
      have y2 : w6.frozen? ⟨j, 2, none⟩ = false := blk_frozen HI.out.box 2
      obtain ⟨V, hV⟩ : ∃ V, V = w6.setCell ⟨j, 2, none⟩ (.string (str t.1)) := ⟨_, rfl⟩
      have HV : Aside0 (InRef w V g S j0 j t.2 at_ (.slice Av acc.length cv) (str t.1) acc) := ⟨by rw [hV]; exact HI.out.putLine _⟩
      have z2 : (w6.setCell ⟨j, 2, none⟩ (.string (str t.1))).cell? ⟨g, 2, none⟩ = some (.bool t.2.isNone) := by rw [← hV]; exact MR.cell2 HV.out.rs
      have c0 : (w6.setCell ⟨j, 2, none⟩ (.string (str t.1))).cell? ⟨j, 0, none⟩ = some (.int .i64 at_) := by rw [← hV]; exact blk_cell HV.out.box 0
      have c1 : (w6.setCell ⟨j, 2, none⟩ (.string (str t.1))).cell? ⟨j, 1, none⟩ = some (.slice Av acc.length cv) := by rw [← hV]; exact blk_cell HV.out.box 1
      have c2 : (w6.setCell ⟨j, 2, none⟩ (.string (str t.1))).cell? ⟨j, 2, none⟩ = some (.string (str t.1)) := by rw [← hV]; exact blk_cell HV.out.box 2
      have HWd := Aside0.mk hV
      clear hV
      cases hbad : t.2 with
      | none =>
        have HNo : Aside0 (getOk st = false) := ⟨by unfold getOk; rw [HRaw.out, hbad]; rfl⟩
        rw [hbad] at z2
        simp only [Option.isNone_none] at z2
        have Hbad := Aside0.mk hbad
        clear hbad
        clear c0 c1 c2
        have r0 : (w6.setCell ⟨j, 2, none⟩ (.string (str t.1))).cell? ⟨j0, 0, none⟩ = some (.int .i64 0) := blk_cell (HWd.out ▸ HV.out.res) 0
        have f0 : (w6.setCell ⟨j, 2, none⟩ (.string (str t.1))).frozen? ⟨j0, 0, none⟩ = false := blk_frozen (HWd.out ▸ HV.out.res) 0
        have r1 : ∀ x, ((w6.setCell ⟨j, 2, none⟩ (.string (str t.1))).setCell ⟨j0, 0, none⟩ x).cell? ⟨j0, 1, none⟩ = some (.slice none 0 0) := fun x => blk_cell (blk_set (HWd.out ▸ HV.out.res) 0 x) 1
        have f1 : ∀ x, ((w6.setCell ⟨j, 2, none⟩ (.string (str t.1))).setCell ⟨j0, 0, none⟩ x).frozen? ⟨j0, 1, none⟩ = false := fun x => blk_frozen (blk_set (HWd.out ▸ HV.out.res) 0 x) 1
        have r2 : ∀ x y, (((w6.setCell ⟨j, 2, none⟩ (.string (str t.1))).setCell ⟨j0, 0, none⟩ x).setCell ⟨j0, 1, none⟩ y).cell? ⟨j0, 2, none⟩ = some (.string ⟨#[]⟩) := fun x y => blk_cell (blk_set (blk_set (HWd.out ▸ HV.out.res) 0 x) 1 y) 2
        have f2 : ∀ x y, (((w6.setCell ⟨j, 2, none⟩ (.string (str t.1))).setCell ⟨j0, 0, none⟩ x).setCell ⟨j0, 1, none⟩ y).frozen? ⟨j0, 2, none⟩ = false := fun x y => blk_frozen (blk_set (blk_set (HWd.out ▸ HV.out.res) 0 x) 1 y) 2
        go_wp2
        try rw [← HWd.out]
        clear r0 f0 r1 f1 r2 f2 x2 y2 z2
        refine bodyPost_ret (results_ct rfl _ _ j0 34 #[.int .i64 0, .slice none 0 0, .string ⟨#[]⟩] (0, 0) _ rfl (put3 HV.out.res (.int .i64 0) (.slice none 0 0) (.string ⟨#[]⟩)) Try.underlying34 rfl (by kernel_rfl)) rfl ?_
        have hlt := HV.out.lt
        have hgp := grown_put3 V j0 (.int .i64 0) (.slice none 0 0) (.string ⟨#[]⟩)
        refine ⟨Ent.zero, ?_, ?_, ?_, ?_, grown_new HV.out.grown hgp (fun k hk => by cases hk; omega)⟩
        · rw [HNo.out]; rfl
        · exact zero_in _
        · unfold getKey; rw [HNo.out]; rfl
        · rw [HRaw.out]; exact HV.out.rs.kept hgp (by simp; omega)
      | some rest =>
        have Hbad := Aside0.mk hbad
        rw [hbad] at z2
        simp only [Option.isNone_some] at z2
        clear hbad
        have hOK : Aside0 (getOk st = goodE ⟨at_, L.1, str t.1⟩) := ⟨by unfold getOk; rw [HRaw.out, Hbad.out]; rfl⟩
        obtain ⟨gd, hgd⟩ : ∃ g, g = goodE ⟨at_, L.1, str t.1⟩ := ⟨_, rfl⟩
        rw [← hgd] at hOK
        have HX : Aside0 ((⟨at_, Av, cv, acc, str t.1⟩ : Ent).In V) := ⟨by
          obtain ⟨A', c', e', h1, h2⟩ := own_labels HV.out.own
          injection e' with e1 e2 e3
          subst e1 e3
          exact ⟨h1, h2, by rw [HA2.out.1]; exact Nat.le_trans HLs.out.1 (by decide)⟩⟩
        have HGd : Aside0 (Calls Try.prog 33 #[.agg #[.int .i64 at_, .slice Av acc.length cv, .string (str t.1)]] V fun e w' => e = .returned (.bool gd) ∧ Below V.heap.size V w') := ⟨by
          have h := refGood_any ⟨at_, Av, cv, acc, str t.1⟩ V HX.out (fun y hy => by
            have := HLs.out.2 y (by rw [← HA2.out.1]; exact hy)
            exact Nat.le_trans this.1 (by decide))
          have e : goodE (Ent.key ⟨at_, Av, cv, acc, str t.1⟩) = gd := by rw [hgd, ← HA2.out.1]; rfl
          rw [e] at h
          exact h⟩
        clear hgd
        go_wp2_with fail
        clear c0 c1 c2 z2 x2 y2
        try rw [← HWd.out]
        clear HWd
        ((refine HGd.out.mono ?_); rintro e w8 ⟨rfl, hb8⟩)
        have HV := Aside0.mk (HV.out.below hb8)
        have HX := Aside0.mk (HX.out.below hb8)
        clear hb8 HGd
        cases gd with
        | false =>
          have HNo := hOK
          have r0 : w8.cell? ⟨j0, 0, none⟩ = some (.int .i64 0) := blk_cell HV.out.res 0
          have f0 : w8.frozen? ⟨j0, 0, none⟩ = false := blk_frozen HV.out.res 0
          have r1 : ∀ x, (w8.setCell ⟨j0, 0, none⟩ x).cell? ⟨j0, 1, none⟩ = some (.slice none 0 0) := fun x => blk_cell (blk_set HV.out.res 0 x) 1
          have f1 : ∀ x, (w8.setCell ⟨j0, 0, none⟩ x).frozen? ⟨j0, 1, none⟩ = false := fun x => blk_frozen (blk_set HV.out.res 0 x) 1
          have r2 : ∀ x y, ((w8.setCell ⟨j0, 0, none⟩ x).setCell ⟨j0, 1, none⟩ y).cell? ⟨j0, 2, none⟩ = some (.string ⟨#[]⟩) := fun x y => blk_cell (blk_set (blk_set HV.out.res 0 x) 1 y) 2
          have f2 : ∀ x y, ((w8.setCell ⟨j0, 0, none⟩ x).setCell ⟨j0, 1, none⟩ y).frozen? ⟨j0, 2, none⟩ = false := fun x y => blk_frozen (blk_set (blk_set HV.out.res 0 x) 1 y) 2
          go_wp2
          clear r0 f0 r1 f1 r2 f2
          refine bodyPost_ret (results_ct rfl _ _ j0 34 #[.int .i64 0, .slice none 0 0, .string ⟨#[]⟩] (0, 0) _ rfl (put3 HV.out.res (.int .i64 0) (.slice none 0 0) (.string ⟨#[]⟩)) Try.underlying34 rfl (by kernel_rfl)) rfl ?_
          have hlt := HV.out.lt
          have hgp := grown_put3 w8 j0 (.int .i64 0) (.slice none 0 0) (.string ⟨#[]⟩)
          refine ⟨Ent.zero, ?_, ?_, ?_, ?_, grown_new HV.out.grown hgp (fun k hk => by cases hk; omega)⟩
          · rw [HNo.out]; rfl
          · exact zero_in _
          · unfold getKey; rw [HNo.out]; rfl
          · rw [HRaw.out]; exact HV.out.rs.kept hgp (by simp; omega)
        | true =>
          have c0 : w8.cell? ⟨j, 0, none⟩ = some (.int .i64 at_) := blk_cell HV.out.box 0
          have c1 : w8.cell? ⟨j, 1, none⟩ = some (.slice Av acc.length cv) := blk_cell HV.out.box 1
          have c2 : w8.cell? ⟨j, 2, none⟩ = some (.string (str t.1)) := blk_cell HV.out.box 2
          have r0 : w8.cell? ⟨j0, 0, none⟩ = some (.int .i64 0) := blk_cell HV.out.res 0
          have f0 : w8.frozen? ⟨j0, 0, none⟩ = false := blk_frozen HV.out.res 0
          have r1 : ∀ x, (w8.setCell ⟨j0, 0, none⟩ x).cell? ⟨j0, 1, none⟩ = some (.slice none 0 0) := fun x => blk_cell (blk_set HV.out.res 0 x) 1
          have f1 : ∀ x, (w8.setCell ⟨j0, 0, none⟩ x).frozen? ⟨j0, 1, none⟩ = false := fun x => blk_frozen (blk_set HV.out.res 0 x) 1
          have r2 : ∀ x y, ((w8.setCell ⟨j0, 0, none⟩ x).setCell ⟨j0, 1, none⟩ y).cell? ⟨j0, 2, none⟩ = some (.string ⟨#[]⟩) := fun x y => blk_cell (blk_set (blk_set HV.out.res 0 x) 1 y) 2
          have f2 : ∀ x y, ((w8.setCell ⟨j0, 0, none⟩ x).setCell ⟨j0, 1, none⟩ y).frozen? ⟨j0, 2, none⟩ = false := fun x y => blk_frozen (blk_set (blk_set HV.out.res 0 x) 1 y) 2
          go_wp2
          clear c0 c1 c2 r0 f0 r1 f1 r2 f2
          refine bodyPost_ret (results_ct rfl _ _ j0 34 #[.int .i64 at_, .slice Av acc.length cv, .string (str t.1)] (0, 0) _ rfl (put3 HV.out.res (.int .i64 at_) (.slice Av acc.length cv) (.string (str t.1))) Try.underlying34 rfl (by kernel_rfl)) rfl ?_
          have hlt := HV.out.lt
          have hgp := grown_put3 w8 j0 (.int .i64 at_) (.slice Av acc.length cv) (.string (str t.1))
          refine ⟨⟨at_, Av, cv, acc, str t.1⟩, ?_, ?_, ?_, ?_, grown_new HV.out.grown hgp (fun k hk => by cases hk; omega)⟩
          · rw [hOK.out]; rfl
          · obtain ⟨A', c', e', h1, h2⟩ := own_labels (owns_kept HV.out.own hgp (fun k hk => by cases hk; omega))
            injection e' with e1 e2 e3
            subst e1 e3
            exact ⟨h1, h2, HX.out.few⟩
          · unfold getKey; rw [if_pos hOK.out, HRaw.out]; unfold Ent.key; rw [HA2.out.1]
          · rw [HRaw.out]; exact HV.out.rs.kept hgp (by simp; omega)
    · obtain ⟨k, rfl⟩ : ∃ k, m = k + 1 := ⟨m - 1, by omega⟩
      have d1 : decide (i < n) = true := decide_eq_true (by omega)
      have d2 : decide ((i : Int) < (n : Int)) = true := decide_eq_true (by omega)
      obtain ⟨a1, ha1⟩ : ∃ a, a = N.txt 20 s := ⟨_, rfl⟩
      obtain ⟨a2, ha2⟩ : ∃ a, a = N.txt 20 a1.2 := ⟨_, rfl⟩
      obtain ⟨p, hp⟩ : ∃ p, p = str a1.1 := ⟨_, rfl⟩
      obtain ⟨q, hq⟩ : ∃ q, q = str a2.1 := ⟨_, rfl⟩
      have HA2 : Aside0 ((acc ++ [⟨p, q⟩]) ++ (getLabs k a2.2).1 = L.1 ∧ (getLabs k a2.2).2 = L.2) := ⟨by
        have := HA.out
        simp only [getLabs] at this
        rw [← ha1, ← ha2, ← hp, ← hq] at this
        rw [List.append_assoc]
        exact this⟩
      have H3 : Aside0 (∀ V, MR V g S s → Calls Try.prog 74 #[.pointer (some ⟨g, 0, none⟩), .int .i64 20] V fun e w' => e = .returned (.string p) ∧ MR w' g S a1.2 ∧ V.grownBy w' (some g)) := ⟨fun V h => by rw [hp, ha1]; exact mt g S s 20 20 V (by decide) (by decide) HSz.out h⟩
      have H5 : Aside0 (∀ V, MR V g S a1.2 → Calls Try.prog 74 #[.pointer (some ⟨g, 0, none⟩), .int .i64 20] V fun e w' => e = .returned (.string q) ∧ MR w' g S a2.2 ∧ V.grownBy w' (some g)) := ⟨fun V h => by rw [hq, ha2]; exact mt g S a1.2 20 20 V (by decide) (by decide) HSz.out h⟩
      have hk4 : Aside0 (i + (k + 1) = n ∧ n ≤ 4 ∧ acc.length = i) := ⟨hmi, H2n.out, Hm.out⟩
      clear ha1 ha2 hp hq HA hm0 hmi
      go_wp2_with fail
      ((refine (H3.out _ HI.out.rs).mono ?_); rintro e w3 ⟨rfl, hr_, hg_⟩)
      have HI := Aside0.mk (HI.out.read hr_ hg_)
      clear hr_ hg_
      have HB : Aside0 (Bj j w3 w3) := ⟨Bj.refl _⟩
      have HI0 := HI
      go_wp2_with fail
      refine start_ (n := 10) (S := fun x_ => Bj j w3 x_) (ds := [9]) #[false, false, false, false, false, false, false, false, false, false] (by kernel_rfl) rfl rfl (Bj.drew (Bj.refl _)) (fun hHeld => ?_)
      refine with_tabW tab_magpieref04_Get_8 bits_magpieref04_Get_8 (fun HT_ HW_ => ?_)
      have HB := Aside0.mk (Bj.drew HB.out)
      change Aside0 (Bj j _ (World.drew w3)) at HB
      change Bj j _ (World.drew w3) at hHeld
      have hSz : (World.drew w3).heap.size = w3.heap.size := rfl
      have HI := Aside0.mk (show InRef w (World.drew w3) g S j0 j _ at_ _ ⟨#[]⟩ acc from HI.out.drew)
      clear hSz
      have HS := Aside0.mk hHeld
      clear hHeld
      generalize World.drew w3 = w3d at *
      refine pure_ (i := 0) (N := (some 20)) (v := ?_) (a' := ?_) #[true, false, false, false, false, false, false, false, false, false] rfl rfl (any_of HT_.out (by kernel_rfl)) (fun _ _ _ h => h) (Or.inl ⟨by rfl, ?_⟩) ?_ ?_
      rotate_left
      · intro w_
        go_simp
        try with_reducible rfl
      rotate_left
      · simp only [Act.put, List.setIfInBounds_toArray, List.set_cons_zero, List.set_cons_succ, i64_w, i32_w]
        rfl
      refine pure_ (i := 2) (N := (some 22)) (v := ?_) (a' := ?_) #[true, false, true, false, false, false, false, false, false, false] rfl rfl (any_of HT_.out (by kernel_rfl)) (fun _ _ _ h => h) (Or.inl ⟨by rfl, ?_⟩) ?_ ?_
      rotate_left
      · intro w_
        go_simp
        try with_reducible rfl
      rotate_left
      · simp only [Act.put, List.setIfInBounds_toArray, List.set_cons_zero, List.set_cons_succ, i64_w, i32_w]
        rfl
      refine pure_ (i := 3) (N := (some 23)) (v := ?_) (a' := ?_) #[true, false, true, true, false, false, false, false, false, false] rfl rfl (any_of HT_.out (by kernel_rfl)) (fun _ _ _ h => h) (Or.inl ⟨by rfl, ?_⟩) ?_ ?_
      rotate_left
      · intro w_
        go_simp
        try with_reducible rfl
      rotate_left
      · simp only [Act.put, List.setIfInBounds_toArray, List.set_cons_zero, List.set_cons_succ, i64_w, i32_w]
        rfl
      refine take_ (i := 1) (N := (some 21)) (v := ?_) (a' := ?_) #[true, true, true, true, false, false, false, false, false, false] rfl rfl (take_ofW HT_.out HW_.out (by kernel_rfl)) (fun _ _ _ h => h) (Or.inl ⟨by rfl, ?_⟩) HS.out ?_ ?_
      rotate_left
      · intro Wx hWx
        have hc := (blk_cell (hWx.box.trans HI0.out.box) 1).trans rfl
        go_simp
        try with_reducible rfl
      rotate_left
      · simp only [Act.put, List.setIfInBounds_toArray, List.set_cons_zero, List.set_cons_succ, i64_w, i32_w]
        rfl
      refine one_ (i := 4) (N := (some 24)) #[true, true, true, true, true, false, false, false, false, false] rfl rfl (one_of HT_.out (by kernel_rfl)) (by decide) (fun K hK => ?_)
      refine goes_ Try.func74 (by kernel_rfl) rfl #[.pointer (some ⟨g, 0, none⟩), .int .i64 20] (by rfl) rfl rfl (by (try simp only [List.map_toArray, List.map_cons, List.map_nil]); first | done | rfl) ?_
      refine (H5.out _ HI.out.rs).mono ?_
      rintro e w8_4 ⟨rfl, hr_, hg_⟩
      refine ⟨_, rfl, ?_⟩
      have HI5 := Aside0.mk (HI.out.read hr_ hg_)
      have hb_ : Bj j w3 w8_4 := HS.out.trans (Bj.of hg_ HI.out.lt.2.2.2 (by have := HI.out.lt; simp; omega))
      refine hK.out _ _ hb_ (fun hHeld => ?_)
      clear hK K
      clear hHeld
      (try clear hb)
      have HS := Aside0.mk hb_
      clear hb_
      refine norm_ (a' := ?_) ?_ ?_
      rotate_left
      · show Act.put _ (some 24) _ = _
        simp only [Act.put, List.setIfInBounds_toArray, List.set_cons_zero, List.set_cons_succ, i64_w, i32_w]
        rfl
      refine pure_ (i := 5) (N := (some 25)) (v := ?_) (a' := ?_) #[true, true, true, true, true, true, false, false, false, false] rfl rfl (any_of HT_.out (by kernel_rfl)) (fun _ _ _ h => h) (Or.inl ⟨by rfl, ?_⟩) ?_ ?_
      rotate_left
      · intro w_
        go_simp
        try with_reducible rfl
      rotate_left
      · simp only [Act.put, List.setIfInBounds_toArray, List.set_cons_zero, List.set_cons_succ, i64_w, i32_w]
        rfl
      refine one_ (i := 6) (N := (some 26)) #[true, true, true, true, true, true, true, false, false, false] rfl rfl (one_of HT_.out (by kernel_rfl)) (by decide) (fun K hK => ?_)
      refine value_ (w1 := ?_) (v := ?_) (by rfl) rfl ?_ ?_
      rotate_left 2
      · go_simp
        constructor
        · rfl
        · rfl
      have hb : Bj j w3 (w8_4.alloc (.cells #[.string p, .string q] 47)) := HS.out.trans (Bj.of (World.grownBy_alloc w8_4 _ none) HI5.out.lt.2.2.2 (by simp))
      obtain ⟨v8, w8x, hrun, hown8, hg8⟩ := append_label (j + 1) w8_4 (.slice Av acc.length cv) acc ⟨p, q⟩ HI5.out.own (by have := HI5.out.lt; omega) (by have := hk4.out; omega)
      obtain ⟨A8, c8, rfl, -, -⟩ := own_labels hown8
      have HI7 := Aside0.mk (HI5.out.alloc (.cells #[.string p, .string q] 47))
      dsimp only at hrun hg8
      have hrun := Aside0.mk hrun
      have hown8 := Aside0.mk hown8
      have hg8 := Aside0.mk hg8
      have hb_ : Bj j w3 (w8_4.alloc (.cells #[.string p, .string q] 47)) := hb
      refine hK.out _ _ hb_ (fun hHeld => ?_)
      clear hK K
      clear hHeld
      (try clear hb)
      generalize (w8_4.alloc (.cells #[.string p, .string q] 47)) = w8_6 at *
      have HS := Aside0.mk hb_
      clear hb_
      refine norm_ (a' := ?_) ?_ ?_
      rotate_left
      · show Act.put _ (some 26) _ = _
        simp only [Act.put, List.setIfInBounds_toArray, List.set_cons_zero, List.set_cons_succ, i64_w, i32_w]
        rfl
      refine one_ (i := 7) (N := (some 27)) #[true, true, true, true, true, true, true, true, false, false] rfl rfl (one_of HT_.out (by kernel_rfl)) (by decide) (fun K hK => ?_)
      refine value_ (w1 := ?_) (v := ?_) (by rfl) rfl ?_ ?_
      rotate_left 2
      · refine (append_run (v := Value.slice Av acc.length cv) (y := Value.slice (some ⟨w8_4.heap.size, 0, none⟩) 1 1) hrun.out rfl rfl).trans ?_; simp only [Result.ok.injEq, Next.value.injEq]; constructor <;> rfl
      have hb : Bj j w3 (w8x) := HS.out.trans (Bj.of hg8.out HI7.out.lt.2.2.2 (fun e => by have := owns_block HI7.out.own j e; omega))
      have HI8 := Aside0.mk (HI7.out.more hg8.out hown8.out)
      have hbx : w8x.heap[j]? = some (.cells #[.int .i64 at_, .slice Av acc.length cv, .string ⟨#[]⟩] 34) := (hg8.out.block j HI7.out.lt.2.2.2 (fun e => by have := owns_block HI7.out.own j e.symm; omega)).trans HI7.out.box
      have hc8 : w8x.cell? ⟨j, 1, none⟩ = some (.slice Av acc.length cv) := blk_cell hbx 1
      have hf8 : w8x.frozen? ⟨j, 1, none⟩ = false := blk_frozen hbx 1
      clear hbx
      have hb_ : Bj j w3 (w8x) := hb
      refine hK.out _ _ hb_ (fun hHeld => ?_)
      clear hK K
      clear hHeld
      (try clear hb)
      generalize (w8x) = w8_7 at *
      have HS := Aside0.mk hb_
      clear hb_
      refine norm_ (a' := ?_) ?_ ?_
      rotate_left
      · show Act.put _ (some 27) _ = _
        simp only [Act.put, List.setIfInBounds_toArray, List.set_cons_zero, List.set_cons_succ, i64_w, i32_w]
        rfl
      refine pure_ (i := 8) (N := (some 28)) (v := ?_) (a' := ?_) #[true, true, true, true, true, true, true, true, true, false] rfl rfl (any_of HT_.out (by kernel_rfl)) (fun _ _ _ h => h) (Or.inl ⟨by rfl, ?_⟩) ?_ ?_
      rotate_left
      · intro w_
        go_simp
        try with_reducible rfl
      rotate_left
      · simp only [Act.put, List.setIfInBounds_toArray, List.set_cons_zero, List.set_cons_succ, i64_w, i32_w]
        rfl
      refine last_ (i := 9) (N := none) #[true, true, true, true, true, true, true, true, true, true] rfl rfl (one_of HT_.out (by kernel_rfl)) (by decide) (fun K hK => ?_)
      refine skip_ (w1 := w8_7.setCell ⟨j, 1, none⟩ (.slice A8 (acc ++ [(⟨p, q⟩ : S47)]).length c8)) (by rfl) rfl ?_ ?_
      · go_simp
        try first | done | rfl | (constructor <;> rfl)
      refine hK.out _ _ ?_
      clear hK K
      generalize w8_7.setCell ⟨j, 1, none⟩ (.slice A8 (acc ++ [(⟨p, q⟩ : S47)]).length c8) = w8_9 at *
      refine norm_ (a' := ?_) ?_ ?_
      rotate_left
      · rfl
      refine done_ (done_of HT_.out (by kernel_rfl)) ?_
      go_wp2_with fail
      go_roundw
      case rel => exact ⟨k, i + 1, a2.2, _, acc ++ [⟨p, q⟩], by rw [u64_wrap, show ((i : Int) + 1) % 18446744073709551616 = ((i + 1 : Nat) : Int) by have := hk4.out; omega], by have := hk4.out.1; omega, ⟨by rw [List.length_append, Hm.out]; rfl⟩, HI8, HA2⟩
      case measure => have := hk4.out; rw [u64_wrap, show ((i : Int) + 1) % 18446744073709551616 = ((i + 1 : Nat) : Int) by omega]; simp [intOf]; omega
end Go.Proofs.Ytfejjfbhlmjkeaa.C
end
section
set_option linter.unusedVariables false
set_option linter.unusedSimpArgs false
namespace Go.Proofs.Ytfejjfbhlmjkeaa.N
open Go.RowKit Go.Proofs.YtfejjfbhlmjkeaaW.PrintWords Go.Proofs.YtfejjfbhlmjkeaaW.PrintLast Go.Proofs.Ytfejjfbhlmjkeaa.Bt Go.Proofs.Ytfejjfbhlmjkeaa.B Go.Proofs.Ytfejjfbhlmjkeaa.Vi Go.Proofs.Ytfejjfbhlmjkeaa.Reg
theorem mend (mb : Nat) (S : ByteArray) (st : Option (List UInt8)) (w : World) (h : MR w mb S st) : Calls Try.prog 44 #[.pointer (some ⟨mb, 0, none⟩)] w fun e w' => e = .returned (.bool (isEnd st)) ∧ Below w.heap.size w w' := by
  cases st with
  | none => obtain ⟨p, h1, _⟩ := h; exact mend_bad mb p S w h1
  | some l =>
    obtain ⟨p, h1, h2, rfl⟩ := h
    have he : isEnd (some (S.data.toList.drop p)) = ((p : Int) == (S.size : Int)) := by
      have hl : (S.data.toList.drop p).length = S.size - p := by rw [List.length_drop, data_length]
      cases hd : S.data.toList.drop p with
      | nil =>
        rw [hd] at hl
        have : (p : Int) = (S.size : Int) := by simp at hl; omega
        simp [isEnd, this]
      | cons x t =>
        rw [hd] at hl
        have : ¬ (p : Int) = (S.size : Int) := by simp at hl; omega
        simp [isEnd, this]
    rw [he]
    exact mend_good mb p S w h1
end Go.Proofs.Ytfejjfbhlmjkeaa.N
namespace Go.Proofs.Ytfejjfbhlmjkeaa.C
open Go.RowKit Go.Sort Go.Proofs.YtfejjfbhlmjkeaaW.PrintWords Go.Proofs.YtfejjfbhlmjkeaaW.PrintLast Go.Proofs.YtfejjfbhlmjkeaaW.PrintMore Go.Proofs.Ytfejjfbhlmjkeaa.B Go.Proofs.Ytfejjfbhlmjkeaa.Reg Go.Proofs.Ytfejjfbhlmjkeaa.PRecordIs Go.Proofs.Ytfejjfbhlmjkeaa.CQ Go.Proofs.Ytfejjfbhlmjkeaa.Vi Go.Proofs.Ytfejjfbhlmjkeaa.N Go.Proofs.Ytfejjfbhlmjkeaa.Bt
/-- Are they the same? -/
def sameK (a b : Key) : Bool := decide (cmpE a b = 0)
theorem sameK_iff (a b : Key) : sameK a b = true ↔ a = b := by unfold sameK; rw [decide_eq_true_iff]; exact cmpE_c.eq0 a b
theorem sameK_refl (a : Key) : sameK a a = true := (sameK_iff a a).2 rfl
theorem same_key (a b : Key) : (!bef a b && !bef b a) = sameK a b := by
  unfold bef sameK
  have an := cmpE_c.anti a b
  rcases cmpE_c.tri a b with h | h | h
  · rw [h]; rfl
  · rw [h] at an ⊢
    rw [show cmpE b a = 0 by omega]; rfl
  · rw [h] at an ⊢
    rw [show cmpE b a = -1 by omega]; rfl
set_option maxRecDepth 20000 in
theorem refSame_any (x y : Ent) (w : World) (hx : x.In w) (hy : y.In w) : Calls Try.prog 42 #[x.val, y.val] w fun e w' => e = .returned (.bool (sameK x.key y.key)) ∧ Below w.heap.size w w' := by
  rw [← same_key]
  obtain ⟨W, hW⟩ : ∃ W, W = (w.alloc (.cells #[.int .i64 x.at_, .slice x.A x.ls.length x.c, .string x.line] 34)).alloc (.cells #[.int .i64 y.at_, .slice y.A y.ls.length y.c, .string y.line] 34) := ⟨_, rfl⟩
  obtain ⟨j, hj⟩ : ∃ j, j = w.heap.size := ⟨_, rfl⟩
  have HB : Aside0 (Below w.heap.size w W) := ⟨by rw [hW]; exact below_alloc (below_alloc (Below.refl _ w) _) _⟩
  have XA : Aside0 (BoxE W j x) := ⟨by rw [hW, hj]; exact blk_alloc (Go.heap_alloc_new w _) _⟩
  have XB : Aside0 (BoxE W (j + 1) y) := ⟨by rw [hW, hj]; exact box1 w _ _⟩
  have IA := Aside0.mk (hx.below HB.out)
  have IB := Aside0.mk (hy.below HB.out)
  obtain ⟨p, hp⟩ : ∃ p, p = bef x.key y.key := ⟨_, rfl⟩
  obtain ⟨q, hq⟩ : ∃ q, q = bef y.key x.key := ⟨_, rfl⟩
  rw [← hp, ← hq]
  have HQ0 : Aside0 (∀ V, Below W.heap.size W V → Calls Try.prog 21 #[x.val, y.val] V fun e w' => e = .returned (.bool p) ∧ Below V.heap.size V w') := ⟨fun V h => by rw [hp]; exact before_any x y V (IA.out.below h) (IB.out.below h)⟩
  have HQ1 : Aside0 (∀ V, Below W.heap.size W V → Calls Try.prog 21 #[y.val, x.val] V fun e w' => e = .returned (.bool q) ∧ Below V.heap.size V w') := ⟨fun V h => by rw [hq]; exact before_any y x V (IB.out.below h) (IA.out.below h)⟩
  have HW := Aside0.mk hW
  have HJ := Aside0.mk hj
  clear hW hj hp hq hx hy IA IB
  unfold Ent.val at HQ0 HQ1 ⊢
  go_enter Try.func42, Try.ntmps42
  go_wp2_with fail
  try rw [← HW.out]
  try rw [← HJ.out]
  clear HW HJ
  have a0 : W.cell? _ = _ := XA.out.c0
  have a1 : W.cell? _ = _ := XA.out.c1
  have a2 : W.cell? _ = _ := XA.out.c2
  have b0 : W.cell? _ = _ := XB.out.c0
  have b1 : W.cell? _ = _ := XB.out.c1
  have b2 : W.cell? _ = _ := XB.out.c2
  go_wp2_with fail
  clear a0 a1 a2 b0 b1 b2
  ((refine (HQ0.out _ (Below.refl _ _)).mono ?_); rintro e w1 ⟨rfl, hb1⟩)
  have HB := Aside0.mk (below_step HB.out hb1)
  have XA := Aside0.mk (XA.out.below hb1)
  have XB := Aside0.mk (XB.out.below hb1)
  have HQ1 := Aside0.mk (HQ1.out _ hb1)
  clear hb1 HQ0
  cases p with
  | true =>
    go_wp2
    go_ret
    exact ⟨rfl, HB.out⟩
  | false =>
    have a0 : w1.cell? _ = _ := XA.out.c0
    have a1 : w1.cell? _ = _ := XA.out.c1
    have a2 : w1.cell? _ = _ := XA.out.c2
    have b0 : w1.cell? _ = _ := XB.out.c0
    have b1 : w1.cell? _ = _ := XB.out.c1
    have b2 : w1.cell? _ = _ := XB.out.c2
    go_wp2_with fail
    clear a0 a1 a2 b0 b1 b2
    ((refine (HQ1.out).mono ?_); rintro e w2 ⟨rfl, hb1⟩)
    have HB := Aside0.mk (below_step HB.out hb1)
    clear hb1 HQ1 XA XB
    go_wp2
    go_ret
    exact ⟨by simp, HB.out⟩
theorem In.far {x : Ent} {w : World} {mb : Nat} {S : ByteArray} {st : St} (h : x.In w) (hM : MR w mb S st) (a : Addr) (ha : x.A = some a) (hl : 0 < x.ls.length) : a.block ≠ mb := by
  intro he
  obtain ⟨p, b, hm⟩ : ∃ p b, Mx w mb S p b := by
    cases st with
    | none => obtain ⟨p, h, _⟩ := hM; exact ⟨p, true, h⟩
    | some l => obtain ⟨p, h, _⟩ := hM; exact ⟨p, false, h⟩
  obtain ⟨ad, hA, k0, k1⟩ := at_T47 h.lies 0 (by omega) (by omega)
  rw [ha] at hA
  injection hA with hA
  subst hA
  unfold World.cell? at k1
  rw [add_block, he, hm] at k1
  generalize (a.add (Int.toNat 0 * 2)).off = o at k1
  match o, k1 with
  | 0, k1 => simp at k1
  | 1, k1 => simp at k1
  | n + 2, k1 => simp at k1
theorem In.kept {x : Ent} {w w' : World} {row : Option Nat} (h : x.In w) (hg : w.grownBy w' row) (hne : ∀ a, x.A = some a → 0 < x.ls.length → some a.block ≠ row) : x.In w' :=
  ⟨⟨h.lies.1, h.lies.2.1, fun hn => by
    obtain ⟨ad, e, hc⟩ := h.lies.2.2 hn
    refine ⟨ad, e, fun j p hj => ?_⟩
    obtain ⟨c, hs, hr, hcell⟩ := hc j p hj
    exact ⟨c, hs, hr, fun i u hu => hg.cell (hcell i u hu) (by rw [add_block]; exact hne ad e hn)⟩⟩, h.cap, h.few⟩
set_option maxRecDepth 20000 in
set_option maxHeartbeats 8000000 in
theorem recordReads_all (s : ByteArray) (w : World) (hs : s.size ≤ 140737488351232) (hC : Con w) :
    Calls Try.prog 10 #[.string s] w fun e w' => e = .returned (.bool true) ∧ Below w.heap.size w w' := by
  have HC := Aside0.mk hC
  have HB := Aside0.mk (Below.refl w.heap.size w)
  have HA := Aside0.mk (alive_any w hC)
  clear hC
  by_cases h2 : 2000 < s.size
  · have c0 : decide (2000 < (s.size : Int)) = true := decide_eq_true (by omega)
    go_enter Try.func10, Try.ntmps10
    go_wp2_with fail
    ((refine (HA.out).mono ?_); rintro e w1 ⟨rfl, hb⟩)
    have HB := Aside0.mk hb
    clear hb HA
    go_wp2_with fail
    go_ret
    exact ⟨rfl, HB.out⟩
  have c0 : decide (2000 < (s.size : Int)) = false := decide_eq_false (by omega)
  have Hsm : Aside0 (s.size ≤ 2000) := ⟨by omega⟩
  clear h2 hs
  go_enter Try.func10, Try.ntmps10
  go_wp2_with fail
  ((refine (HA.out).mono ?_); rintro e w1 ⟨rfl, hb⟩)
  have HB := Aside0.mk hb
  clear hb HA
  go_wp2_with fail
  ((with_reducible refine (from_any s w1 (by have := Hsm.out; omega)).mono ?_); rintro e w2 ⟨g, b, rfl, hR, hb, hg, hbb, hbg⟩)
  obtain ⟨W0, hW0⟩ : ∃ V, V = w2.alloc (.cells #[.string s, .int .i64 0, .bool false] 59) := ⟨_, rfl⟩
  obtain ⟨mb, hmb⟩ : ∃ mb, mb = w2.heap.size := ⟨_, rfl⟩
  have hlt := hR.lt
  have HB2 : Aside0 (Below w.heap.size w W0) := ⟨by rw [hW0]; exact below_alloc (below_step HB.out hb) _⟩
  have HR : Aside0 (RS W0 g b (some s.data.toList)) := ⟨by rw [hW0]; exact hR.kept (World.grownBy_alloc w2 _ none) (by simp) (by simp)⟩
  have HM : Aside0 (MR W0 mb s (some s.data.toList)) := ⟨by rw [hW0, hmb]; exact ⟨0, Go.heap_alloc_new w2 _, Nat.zero_le _, by simp⟩⟩
  have Hg : Aside0 (w.heap.size ≤ g ∧ w.heap.size ≤ mb ∧ g ≠ mb ∧ b ≠ mb ∧ b < W0.heap.size) := ⟨by
    have h1 := below_size HB.out
    have h2 := below_size (below_step HB.out hb)
    rw [hmb]
    refine ⟨by omega, by omega, by omega, by omega, ?_⟩
    rw [hW0]; simp; omega⟩
  have HWd := Aside0.mk hW0
  have HJd := Aside0.mk hmb
  clear hb hR hg hbb hbg HB hlt hW0 hmb
  go_wp2_with fail
  try rw [← HWd.out]
  try rw [← HJd.out]
  clear HWd HJd
  go_loopw [5] (fun t5 wr => ∃ (k : Nat) (st : St), k ≤ 4 ∧ t5 = .int .i64 (k : Int) ∧ Aside0 (RS wr g b st) ∧ Aside0 (MR wr mb s st) ∧ Aside0 (Below w.heap.size w wr) ∧ Aside0 (b < wr.heap.size)) (fun t5 _ => 4 - (intOf t5).toNat)
  case atStart => exact ⟨0, _, Nat.zero_le _, rfl, HR, HM, HB2, ⟨Hg.out.2.2.2.2⟩⟩
  case round =>
    clear HR HM HB2
    obtain ⟨k, st, hk, rfl, HR, HM, HB, HBb⟩ := hrel
    by_cases hlt : k < 4
    · have d1 : decide (k < 4) = true := decide_eq_true hlt
      have d2 : decide ((k : Int) < 4) = true := decide_eq_true (by omega)
      have HG1 := Aside0.mk (get_any (wC := w) g b st wr HR.out HBb.out HC.out HB.out Hg.out.1)
      obtain ⟨ok, hok⟩ : ∃ o, o = getOk st := ⟨_, rfl⟩
      obtain ⟨st2, hst2⟩ : ∃ o, o = (getRaw st).2 := ⟨_, rfl⟩
      obtain ⟨key, hkey⟩ : ∃ o, o = getKey st := ⟨_, rfl⟩
      have HG2 : Aside0 (∀ V, MR V mb s st → Calls Try.prog 41 #[.pointer (some ⟨mb, 0, none⟩)] V fun e w' => ∃ x : Ent, e = .returned (.tuple #[x.val, .bool ok]) ∧ x.In w' ∧ x.key = key ∧ MR w' mb s st2 ∧ V.grownBy w' (some mb)) := ⟨fun V h => by rw [hok, hst2, hkey]; exact refGet_any mb s st V h (by have := Hsm.out; omega)⟩
      rw [← hok, ← hst2, ← hkey] at HG1
      have Hlt := Aside0.mk hlt
      clear hok hst2 hkey hlt
      go_wp2_with fail
      ((refine (HG1.out).mono ?_); rintro e w3 ⟨x, rfl, hx, hxk, hr3, hg3⟩)
      clear HG1
      have HM := Aside0.mk (HM.out.kept hg3 (by have := Hg.out; simp; omega))
      have hm3 := HM.out.lt
      have hr4 := hr3.lt
      have HBb : Aside0 (b < w3.heap.size) := ⟨Nat.lt_of_lt_of_le HBb.out hg3.size⟩
      have HB := Aside0.mk (HB.out.grown hg3 HB.out.size (fun k hk => by cases hk; exact Hg.out.1))
      have HX := Aside0.mk hx
      have HXk := Aside0.mk hxk
      have HR := Aside0.mk hr3
      obtain ⟨W1, hW1⟩ : ∃ V, V = w3.alloc (.cells #[.int .i64 x.at_, .slice x.A x.ls.length x.c, .string x.line] 34) := ⟨_, rfl⟩
      obtain ⟨j1, hj1⟩ : ∃ j, j = w3.heap.size := ⟨_, rfl⟩
      have hb0 : Below w3.heap.size w3 W1 := by rw [hW1]; exact below_alloc (Below.refl _ _) _
      have hg0 : w3.grownBy W1 none := by rw [hW1]; exact World.grownBy_alloc w3 _ none
      have XA : Aside0 (BoxE W1 j1 x) := ⟨by rw [hW1, hj1]; exact Go.heap_alloc_new _ _⟩
      have HX := Aside0.mk (HX.out.below hb0)
      have HR := Aside0.mk (HR.out.kept hg0 (by simp) (by simp))
      have HM := Aside0.mk (HM.out.kept hg0 (by simp))
      have HB := Aside0.mk (below_step HB.out hb0)
      have HBb : Aside0 (b < W1.heap.size) := ⟨Nat.lt_of_lt_of_le HBb.out hb0.size⟩
      have HJ1 : Aside0 (mb ≠ j1 ∧ mb < j1 ∧ g < j1) := ⟨by rw [hj1]; exact ⟨by omega, hm3, hr4⟩⟩
      have HWd := Aside0.mk hW1
      have HJd := Aside0.mk hj1
      clear hx hxk hr3 hg3 hW1 hj1 hb0 hg0 hm3 hr4
      unfold Ent.val
      go_wp2_with fail
      try rw [← HWd.out]
      try rw [← HJd.out]
      clear HWd HJd
      ((refine (HG2.out _ HM.out).mono ?_); rintro e w4 ⟨y, rfl, hy, hyk, hr4, hg4⟩)
      clear HG2
      have HX := Aside0.mk (In.kept HX.out hg4 (fun a ha hl => by have := In.far HX.out HM.out a ha hl; simp; omega))
      have XA : Aside0 (BoxE w4 j1 x) := ⟨(hg4.block j1 XA.out.lt (by have := HJ1.out; simp; omega)).trans XA.out⟩
      have HR := Aside0.mk (HR.out.kept hg4 (by have := Hg.out; simp; omega) (by have := Hg.out; simp; omega))
      have HBb : Aside0 (b < w4.heap.size) := ⟨Nat.lt_of_lt_of_le HBb.out hg4.size⟩
      have HB := Aside0.mk (HB.out.grown hg4 HB.out.size (fun k hk => by cases hk; exact Hg.out.2.1))
      have HY := Aside0.mk hy
      have HYk := Aside0.mk hyk
      have HM := Aside0.mk hr4
      obtain ⟨W2, hW2⟩ : ∃ V, V = w4.alloc (.cells #[.int .i64 y.at_, .slice y.A y.ls.length y.c, .string y.line] 34) := ⟨_, rfl⟩
      obtain ⟨j2, hj2⟩ : ∃ j, j = w4.heap.size := ⟨_, rfl⟩
      have hb0 : Below w4.heap.size w4 W2 := by rw [hW2]; exact below_alloc (Below.refl _ _) _
      have hg0 : w4.grownBy W2 none := by rw [hW2]; exact World.grownBy_alloc w4 _ none
      have XB : Aside0 (BoxE W2 j2 y) := ⟨by rw [hW2, hj2]; exact Go.heap_alloc_new _ _⟩
      have XA4 := XA
      have XA := Aside0.mk (XA.out.below hb0)
      have HX := Aside0.mk (HX.out.below hb0)
      have HY := Aside0.mk (HY.out.below hb0)
      have HR := Aside0.mk (HR.out.kept hg0 (by simp) (by simp))
      have HM := Aside0.mk (HM.out.kept hg0 (by simp))
      have HB := Aside0.mk (below_step HB.out hb0)
      have HBb : Aside0 (b < W2.heap.size) := ⟨Nat.lt_of_lt_of_le HBb.out hb0.size⟩
      have HWd := Aside0.mk hW2
      have HJd := Aside0.mk hj2
      clear hy hyk hr4 hg4 hW2 hj2 hb0 hg0
      unfold Ent.val
      have HSm : Aside0 (Calls Try.prog 42 #[x.val, y.val] W2 fun e w' => e = .returned (.bool true) ∧ Below W2.heap.size W2 w') := ⟨by
        have := refSame_any x y W2 HX.out HY.out
        rw [HXk.out, HYk.out, sameK_refl] at this
        exact this⟩
      unfold Ent.val at HSm
      have a0 : ∀ o, (w4.alloc o).cell? ⟨j1, 0, none⟩ = _ := fun o => cell_below (below_alloc (Below.refl _ w4) o) XA4.out.c0
      have a1 : ∀ o, (w4.alloc o).cell? ⟨j1, 1, none⟩ = _ := fun o => cell_below (below_alloc (Below.refl _ w4) o) XA4.out.c1
      have a2 : ∀ o, (w4.alloc o).cell? ⟨j1, 2, none⟩ = _ := fun o => cell_below (below_alloc (Below.refl _ w4) o) XA4.out.c2
      have hokk : (ok != ok) = false := by simp
      go_wp2_with fail
      try rw [← HWd.out]
      try rw [← HJd.out]
      clear HWd HJd
      clear a0 a1 a2 hokk
      ((refine (HSm.out).mono ?_); rintro e w5 ⟨rfl, hb5⟩)
      have hgb := grown_of_below hb5 none
      have HR := Aside0.mk (HR.out.kept hgb (by simp) (by simp))
      have HM := Aside0.mk (HM.out.kept hgb (by simp))
      have HB := Aside0.mk (below_step HB.out hb5)
      have HBb : Aside0 (b < w5.heap.size) := ⟨Nat.lt_of_lt_of_le HBb.out hb5.size⟩
      clear hb5 hgb HSm XA XA4 XB HX HY HXk HYk
      cases ok with
      | false =>
        go_wp2
        go_ret
        exact ⟨rfl, HB.out⟩
      | true =>
        obtain ⟨en, hen⟩ : ∃ e, e = isEnd st2 := ⟨_, rfl⟩
        have HE1 : Aside0 (Calls Try.prog 43 #[.pointer (some ⟨g, 0, none⟩)] w5 fun e w' => e = .returned (.bool en) ∧ w5 = w') := ⟨by rw [hen]; exact rend g b st2 w5 HR.out⟩
        have HE2 : Aside0 (Calls Try.prog 44 #[.pointer (some ⟨mb, 0, none⟩)] w5 fun e w' => e = .returned (.bool en) ∧ Below w5.heap.size w5 w') := ⟨by rw [hen]; exact mend mb s st2 w5 HM.out⟩
        clear hen
        have hee : (en != en) = false := by simp
        go_wp2_with fail
        ((refine (HE1.out).mono ?_); rintro e w6 ⟨rfl, hw6⟩); subst hw6
        go_wp2_with fail
        ((refine (HE2.out).mono ?_); rintro e w6 ⟨rfl, hb6⟩)
        have hgb := grown_of_below hb6 none
        have HR := Aside0.mk (HR.out.kept hgb (by simp) (by simp))
        have HM := Aside0.mk (HM.out.kept hgb (by simp))
        have HB := Aside0.mk (below_step HB.out hb6)
        have HBb : Aside0 (b < w6.heap.size) := ⟨Nat.lt_of_lt_of_le HBb.out hb6.size⟩
        clear hb6 hgb HE1 HE2
        go_wp2_with fail
        go_roundw
        case rel => exact ⟨k + 1, st2, by have := Hlt.out; omega, by go_num, HR, HM, HB, HBb⟩
        case measure => have := Hlt.out; simp [intOf]; omega
    · obtain rfl : k = 4 := by omega
      go_wp2_with fail
      go_ret
      exact ⟨rfl, HB.out⟩
end Go.Proofs.Ytfejjfbhlmjkeaa.C
end
