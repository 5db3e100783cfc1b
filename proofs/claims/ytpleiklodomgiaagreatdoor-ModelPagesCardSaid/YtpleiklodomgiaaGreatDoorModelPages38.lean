import Derived.IntWalk
import Derived.Test.YtpleiklodomgiaaGreatDoorModelPages37
set_option linter.unusedVariables false
set_option linter.unusedSimpArgs false
section
namespace Go.Proofs.YtpleiklodomgiaaGreatDoor.B
end Go.Proofs.YtpleiklodomgiaaGreatDoor.B
namespace Go.Proofs.YtpleiklodomgiaaGreatDoor.C
end Go.Proofs.YtpleiklodomgiaaGreatDoor.C
namespace Go.Proofs.YtpleiklodomgiaaGreatDoor.F
end Go.Proofs.YtpleiklodomgiaaGreatDoor.F
namespace Go.Proofs.YtpleiklodomgiaaGreatDoor.PModelIs
end Go.Proofs.YtpleiklodomgiaaGreatDoor.PModelIs
namespace Go.Proofs.YtpleiklodomgiaaGreatDoor.W
end Go.Proofs.YtpleiklodomgiaaGreatDoor.W
namespace Go.Proofs.YtpleiklodomgiaaGreatDoor.Q
open Go.RowKit Go.Proofs.YtpleiklodomgiaaGreatDoorW.PrintWords Go.Proofs.YtpleiklodomgiaaGreatDoorW.PrintLast Go.Proofs.YtpleiklodomgiaaGreatDoorW.PrintMore Go.Proofs.YtpleiklodomgiaaGreatDoor.B Go.Proofs.YtpleiklodomgiaaGreatDoor.W Go.Proofs.YtpleiklodomgiaaGreatDoor.F Go.Proofs.YtpleiklodomgiaaGreatDoor.C Go.Proofs.YtpleiklodomgiaaGreatDoor.PModelIs
def T_magpieref06_Query_3 : Bool × List (List Nat × List Nat) := (true, [([], []), ([0], [0]), ([], []), ([2], [2]), ([1, 3], [1, 3]), ([0, 1, 2, 3, 4], []), ([5, 4, 3, 0, 1, 2, 3, 4], [4, 5])])
def B_magpieref06_Query_3 : List Nat := [0, 1, 0, 4, 15, 31, 63]
theorem tab_magpieref06_Query_3 : rtab .any (opsOf Tryz.f8 3) = T_magpieref06_Query_3 := by kernel_rfl
theorem bits_magpieref06_Query_3 : waitsOk T_magpieref06_Query_3.2 B_magpieref06_Query_3 = true := by kernel_rfl
def T_magpieref06_Query_7 : Bool × List (List Nat × List Nat) := (true, [([], []), ([0], [0]), ([], []), ([], []), ([3], [3]), ([2, 4], [2, 4]), ([5], [5]), ([], []), ([7, 4], [7]), ([8], [8]), ([], []), ([], []), ([11, 8], [11]), ([10, 12], [10, 12]), ([13], [13]), ([6, 9, 14], [6, 9, 14]), ([15], [15]), ([1, 16, 12], [1, 16]), ([0, 1, 2, 3, 4, 5, 6, 7, 8, 9, 10, 11, 12, 13, 14, 15, 16, 17], []), ([18, 17, 17, 0, 1, 2, 3, 4, 5, 6, 7, 8, 9, 10, 11, 12, 13, 14, 15, 16, 17], [17, 18])])
def B_magpieref06_Query_7 : List Nat := [0, 1, 0, 0, 8, 28, 60, 0, 152, 408, 0, 0, 2456, 7576, 15768, 32764, 65532, 131071, 262143, 524287]
theorem tab_magpieref06_Query_7 : rtab .any (opsOf Tryz.f8 7) = T_magpieref06_Query_7 := by kernel_rfl
theorem bits_magpieref06_Query_7 : waitsOk T_magpieref06_Query_7.2 B_magpieref06_Query_7 = true := by kernel_rfl
structure Qv where
 fr : Int
 till : Int
 ms : List Mt
 T : S35
 desc : Bool
 lim : Int
def qvVal (q : Qv) (A : Option Addr) (c : Nat) (A' : Option Addr) (c' : Nat) : Value := .agg #[.int .i64 q.fr, .int .i64 q.till, .slice A q.ms.length c, .int .i64 q.T.f0, .string q.T.f1, .string q.T.f2, .slice A' q.T.f3.length c', .bool q.desc, .int .i64 q.lim, .string ⟨#[]⟩]
structure IsQ (w : World) (q : Qv) (A : Option Addr) (c : Nat) (A' : Option Addr) (c' : Nat) : Prop where
 rows : Kd.C k61 w A q.ms.length q.ms
 room : q.ms.length ≤ c
 few : q.ms.length ≤ 1000
 tree : IsT 4 w q.T A' c'
 lim : 1 ≤ q.lim ∧ q.lim ≤ 8
theorem IsQ.below {w w' : World} {q : Qv} {A A' : Option Addr} {c c' : Nat} (h : IsQ w q A c A' c') (hb : Below w.heap.size w w') : IsQ w' q A c A' c' := ⟨Kd.C_below h.rows hb, h.room, h.few, h.tree.below hb, h.lim⟩
def setFrom (V : World) (g : Nat) : Nat → List Value → World
 | _, [] => V
 | i, u :: us => setFrom (V.setCell ⟨g, i, none⟩ u) g (i + 1) us
def setR (V : World) (g : Nat) (us : List Value) : World := setFrom V g 0 us
theorem OwnM.setFrom {base : Nat} {v : Value} {xs : List Mt} {g : Nat} (hg : v.ownBlock ≠ some g) : ∀ (us : List Value) (i : Nat) (w : World), OwnM w base v xs → OwnM (setFrom w g i us) base v xs
 | [], _, _, h => h
 | u :: us, i, w, h => OwnM.setFrom hg us (i + 1) _ (h.far g i u hg)
theorem OwnM.setR {w : World} {base : Nat} {v : Value} {xs : List Mt} {g : Nat} (h : OwnM w base v xs) (hg : v.ownBlock ≠ some g) (us : List Value) : OwnM (setR w g us) base v xs := OwnM.setFrom hg us 0 w h
theorem F_setFrom {g : Nat} {A : Option Addr} {n : Nat} {xs : List S35} : ∀ (us : List Value) (i : Nat) (w : World), Kd.F k35 w (fun k => k ≠ g) A n xs → Kd.F k35 (setFrom w g i us) (fun k => k ≠ g) A n xs
 | [], _, _, h => h
 | u :: us, i, w, h => F_setFrom us (i + 1) _ (Kd.F_far h (fun k hk => hk) u)
theorem F_setR {w : World} {g : Nat} {A : Option Addr} {n : Nat} {xs : List S35} (h : Kd.F k35 w (fun k => k ≠ g) A n xs) (us : List Value) : Kd.F k35 (setR w g us) (fun k => k ≠ g) A n xs := F_setFrom us 0 w h
theorem F_nilQ (V : World) (ok : Nat → Prop) : Kd.F k35 V ok none ([] : List S35).length [] := Kd.F_mono (Kd.N_F (Kd.N_nil k35 35 V 0 ok)) (fun _ h => h)
theorem below_setFrom {W : World} {g : Nat} (hg : W.heap.size ≤ g) : ∀ (us : List Value) (i : Nat) (w : World), Below W.heap.size W w → Below W.heap.size W (setFrom w g i us)
 | [], _, _, h => h
 | u :: us, i, w, h => below_setFrom hg us (i + 1) _ (below_set h hg)
theorem below_setR {W w : World} {g : Nat} (h : Below W.heap.size W w) (hg : W.heap.size ≤ g) (us : List Value) : Below W.heap.size W (setR w g us) := below_setFrom hg us 0 w h
theorem setR_eq (V : World) (g : Nat) (a0 a1 a2 a3 a4 a5 a6 a7 a8 a9 : Value) : setR V g [a0, a1, a2, a3, a4, a5, a6, a7, a8, a9] = ((((((((((V.setCell ⟨g, 0, none⟩ a0).setCell ⟨g, 1, none⟩ a1).setCell ⟨g, 2, none⟩ a2).setCell ⟨g, 3, none⟩ a3).setCell ⟨g, 4, none⟩ a4).setCell ⟨g, 5, none⟩ a5).setCell ⟨g, 6, none⟩ a6).setCell ⟨g, 7, none⟩ a7).setCell ⟨g, 8, none⟩ a8).setCell ⟨g, 9, none⟩ a9) := rfl
theorem setR_box {V : World} {g : Nat} (h : V.heap[g]? = some (.cells qZero 37 (0, 0))) (a0 a1 a2 a3 a4 a5 a6 a7 a8 a9 : Value) : ((((((((((V.setCell ⟨g, 0, none⟩ a0).setCell ⟨g, 1, none⟩ a1).setCell ⟨g, 2, none⟩ a2).setCell ⟨g, 3, none⟩ a3).setCell ⟨g, 4, none⟩ a4).setCell ⟨g, 5, none⟩ a5).setCell ⟨g, 6, none⟩ a6).setCell ⟨g, 7, none⟩ a7).setCell ⟨g, 8, none⟩ a8).setCell ⟨g, 9, none⟩ a9).heap[g]? = some (.cells #[a0, a1, a2, a3, a4, a5, a6, a7, a8, a9] 37 (0, 0)) := by
 unfold qZero qCells at h
 replace h := blk_set h 0 a0
 simp only [List.setIfInBounds_toArray, List.set_cons_zero, List.set_cons_succ] at h
 replace h := blk_set h 1 a1
 simp only [List.setIfInBounds_toArray, List.set_cons_zero, List.set_cons_succ] at h
 replace h := blk_set h 2 a2
 simp only [List.setIfInBounds_toArray, List.set_cons_zero, List.set_cons_succ] at h
 replace h := blk_set h 3 a3
 simp only [List.setIfInBounds_toArray, List.set_cons_zero, List.set_cons_succ] at h
 replace h := blk_set h 4 a4
 simp only [List.setIfInBounds_toArray, List.set_cons_zero, List.set_cons_succ] at h
 replace h := blk_set h 5 a5
 simp only [List.setIfInBounds_toArray, List.set_cons_zero, List.set_cons_succ] at h
 replace h := blk_set h 6 a6
 simp only [List.setIfInBounds_toArray, List.set_cons_zero, List.set_cons_succ] at h
 replace h := blk_set h 7 a7
 simp only [List.setIfInBounds_toArray, List.set_cons_zero, List.set_cons_succ] at h
 replace h := blk_set h 8 a8
 simp only [List.setIfInBounds_toArray, List.set_cons_zero, List.set_cons_succ] at h
 replace h := blk_set h 9 a9
 simp only [List.setIfInBounds_toArray, List.set_cons_zero, List.set_cons_succ] at h
 exact h
set_option maxRecDepth 20000 in
set_option maxHeartbeats 16000000 in
theorem query_any (L : List Int) (hL : L.length ≤ 300) (A : Option Addr) (c : Nat) (W : World) (hC : Kd.C (Kd.int .i64) W A L.length L) :
  Calls Tryz.prog 8 #[.slice A L.length c] W fun e w' => ∃ q A1 c1 A2 c2, e = .returned (qvVal q A1 c1 A2 c2) ∧ IsQ w' q A1 c1 A2 c2 ∧ Below W.heap.size W w' := by
 have HNx : Aside0 (∀ (n : Int), 0 < n → n ≤ 100 → ∀ (V : World) {g : Nat}, Src W V g L → Calls Tryz.prog 18 #[.pointer (some ⟨g, 0, none⟩), .int .i64 n] V fun e V' => ∃ r : Int, e = .returned (.int .i64 r) ∧ 0 ≤ r ∧ r < n ∧ Src W V' g L ∧ KeepBut V V' g none) := ⟨fun n h0 h1 V g h => next_q L hL n h0 h1 W V g h⟩
 have HMk : Aside0 (∀ (V : World) {g : Nat}, Src W V g L → Calls Tryz.prog 19 #[.pointer (some ⟨g, 0, none⟩), .int .i64 3] V fun e V' => ∃ T A' c', e = .returned (fv T A' c') ∧ OkT 4 T ∧ Kd.N k35 35 V' V.heap.size (fun k => V.heap.size ≤ k) (.slice A' T.f3.length c') T.f3 ∧ Src W V' g L ∧ KeepBut V V' g none) := ⟨fun V g h => make_q L hL 3 (by decide) W V g h⟩
 have HS0 : Aside0 (∀ zb : Obj, Src W ((W.alloc zb).alloc (.cells #[.slice A L.length c, .int .i64 0] 57)) (W.heap.size + 1) L) := ⟨fun zb => by
  have hI := IsS57.new W (W.alloc zb) A c L 0 (below_alloc (Below.refl _ W) zb) hC
  have e0 : (W.alloc zb).heap.size = W.heap.size + 1 := by simp
  rw [e0] at hI
  exact ⟨0, Int.le_refl _, by omega, hI, below_alloc (below_alloc (Below.refl _ W) zb) _⟩⟩
 clear hL hC
 obtain ⟨ln, hln⟩ : ∃ n, n = L.length := ⟨_, rfl⟩
 rw [← hln] at HS0 ⊢
 clear hln
 go_enter Tryz.func8, Tryz.ntmps8
 go_wp2_with fail
 have HR0 : Aside0 (((W.alloc (.cells qZero 37)).alloc (.cells #[.slice A ln c, .int .i64 0] 57)).heap[W.heap.size]? = some (.cells qZero 37 (0, 0))) := ⟨box0 W _ _⟩
 have HS1 := Aside0.mk (HS0.out (.cells qZero 37))
 clear HS0
 obtain ⟨bR, hbR⟩ : ∃ b, b = W.heap.size := ⟨_, rfl⟩
 obtain ⟨bS, hbS⟩ : ∃ b, b = W.heap.size + 1 := ⟨_, rfl⟩
 rw [← hbS] at HS1 ⊢
 rw [← hbR] at HR0 ⊢
 have HbR : Aside0 (W.heap.size ≤ bR) := ⟨by rw [hbR]; exact Nat.le_refl _⟩
 clear hbR hbS
 obtain ⟨V0, hV0⟩ : ∃ V, V = (W.alloc (.cells qZero 37)).alloc (.cells #[.slice A ln c, .int .i64 0] 57) := ⟨_, rfl⟩
 rw [← hV0] at HR0 HS1
 have HV0 := Aside0.mk hV0
 clear hV0
 unfold qZero qCells at HV0
 try rw [← HV0.out]
 clear HV0
 ((refine (HNx.out 20 (by decide) (by decide) _ HS1.out).mono ?_); rintro e V1 ⟨r1, rfl, a0, a1, hs_, hk_⟩)
 have HS2 := Aside0.mk hs_
 have HR1 := Aside0.mk (hk_.blk HR0.out (HS1.out.ne HR0.out (by decide)) (by simp))
 clear hs_ hk_ HS1 HR0
 go_wp2_with fail
 ((refine (HNx.out 2 (by decide) (by decide) _ HS2.out).mono ?_); rintro e V2 ⟨r2, rfl, b0, b1, hs_, hk_⟩)
 have HS3 := Aside0.mk hs_
 have HR2 := Aside0.mk (hk_.blk HR1.out (HS2.out.ne HR1.out (by decide)) (by simp))
 clear hs_ hk_ HS2 HR1 b0 b1
 go_wp2_with fail
 ((refine (HNx.out 8 (by decide) (by decide) _ HS3.out).mono ?_); rintro e V3 ⟨r3, rfl, c0, c1, hs_, hk_⟩)
 have HS4 := Aside0.mk hs_
 have HR3 := Aside0.mk (hk_.blk HR2.out (HS3.out.ne HR2.out (by decide)) (by simp))
 clear hs_ hk_ HS3 HR2
 go_wp2_with fail
 have Hlim : Aside0 (1 ≤ 1 + r3 ∧ 1 + r3 ≤ 8) := ⟨by omega, by omega⟩
 have Hfr0 : Aside0 (-5 ≤ r1 - 5 ∧ r1 - 5 ≤ 100) := ⟨by omega, by omega⟩
 obtain ⟨fr, hfr⟩ : ∃ q, q = r1 - 5 := ⟨_, rfl⟩
 obtain ⟨lim, hlim⟩ : ∃ q, q = 1 + r3 := ⟨_, rfl⟩
 obtain ⟨desc, hdesc⟩ : ∃ q, q = (r2 == 1) := ⟨_, rfl⟩
 rw [← hfr] at Hfr0 ⊢
 rw [← hlim] at Hlim ⊢
 rw [← hdesc]
 clear hfr hlim hdesc a0 a1 c0 c1
 obtain ⟨bQ, hbQ⟩ : ∃ b, b = V3.heap.size := ⟨_, rfl⟩
 have hq_ : QW W bR bS bQ L (qCells fr 0 (.slice none 0 0) 0 ⟨#[]⟩ ⟨#[]⟩ (.slice none 0 0) desc lim ⟨#[]⟩) (.slice none 0 0) [] (V3.alloc (.cells (qCells fr 0 (.slice none 0 0) 0 ⟨#[]⟩ ⟨#[]⟩ (.slice none 0 0) desc lim ⟨#[]⟩) 37)) :=
  ⟨HS4.out.below (below_alloc (Below.refl _ _) _), blk_alloc HR3.out _, by rw [hbQ]; exact Go.heap_alloc_new V3 _, OwnM.nil _ _, fun e => by have := blk_lt HR3.out; omega, by rw [hbQ]; exact HS4.out.base.size⟩
 rw [← hbQ]
 obtain ⟨V, hV⟩ : ∃ V, V = V3.alloc (.cells (qCells fr 0 (.slice none 0 0) 0 ⟨#[]⟩ ⟨#[]⟩ (.slice none 0 0) desc lim ⟨#[]⟩) 37) := ⟨_, rfl⟩
 rw [← hV] at hq_
 have HV := Aside0.mk hV
 unfold qCells at HV
 rw [← HV.out]
 clear HV hV hbQ HS4 HR3
 obtain ⟨cs, hcs⟩ : ∃ cs, cs = qCells fr 0 (.slice none 0 0) 0 ⟨#[]⟩ ⟨#[]⟩ (.slice none 0 0) desc lim ⟨#[]⟩ := ⟨_, rfl⟩
 rw [← hcs] at hq_
 have Hcs0 : Aside0 (cs[0]? = some (.int .i64 fr)) := ⟨by rw [hcs]; rfl⟩
 have Hcs1 : Aside0 (cs[1]? = some (.int .i64 0)) := ⟨by rw [hcs]; rfl⟩
 have Hcs' : Aside0 (∀ till, cs.setIfInBounds 1 (.int .i64 till) = qCells fr till (.slice none 0 0) 0 ⟨#[]⟩ ⟨#[]⟩ (.slice none 0 0) desc lim ⟨#[]⟩) := ⟨fun till => by rw [hcs]; rfl⟩
 have Hfr := Hfr0
 have HQ := Aside0.mk hq_
 clear hcs hq_ Hfr0
 refine start_ (n := 7) (S := fun w' => True) (ds := []) #[false, false, false, false, false, false, false] (by kernel_rfl) rfl rfl trivial (fun hHeld => ?_); refine with_tabW tab_magpieref06_Query_3 bits_magpieref06_Query_3 (fun HT_ HW_ => ?_)
 replace HQ := Aside0.mk HQ.out.drew
 change Aside0 (QW W bR bS bQ L cs (.slice none 0 0) [] (World.drew V)) at HQ
 generalize World.drew V = V2 at *
 clear hHeld
 refine pure_ (i := 0) (N := some 19) (v := ?_) (a' := ?_) #[true, false, false, false, false, false, false] rfl rfl (any_of HT_.out (by kernel_rfl)) (fun _ _ _ h => h) (Or.inl ⟨by rfl, ?_⟩) ?_ ?_
 rotate_left
 ·intro w_
  go_simp
  try with_reducible rfl
 rotate_left
 ·simp only [Act.put, List.setIfInBounds_toArray, List.set_cons_zero, List.set_cons_succ, i64_w, i32_w]
  rfl
 refine pure_ (i := 2) (N := some 21) (v := ?_) (a' := ?_) #[true, false, true, false, false, false, false] rfl rfl (any_of HT_.out (by kernel_rfl)) (fun _ _ _ h => h) (Or.inl ⟨by rfl, ?_⟩) ?_ ?_
 rotate_left
 ·intro w_
  go_simp
  try with_reducible rfl
 rotate_left
 ·simp only [Act.put, List.setIfInBounds_toArray, List.set_cons_zero, List.set_cons_succ, i64_w, i32_w]
  rfl
 refine inv_at [1, 3, 4, 5, 6] (fun a0_ b a w' => ∃ (r till : Int), a = putSel a0_ b [(1, 20, .int .i64 fr), (3, 22, .int .i64 r), (4, 23, .int .i64 till), (5, 24, .pointer (some ⟨bQ, 1, none⟩))] ∧ (b 6 = false → QW W bR bS bQ L cs (.slice none 0 0) [] w') ∧ (b 6 = true → QW W bR bS bQ L (cs.setIfInBounds 1 (.int .i64 till)) (.slice none 0 0) [] w') ∧ (b 3 = true → 0 ≤ r ∧ r < 20)) HT_.out HW_.out (by kernel_rfl) (by kernel_rfl) ?_ ?_ ?_
 ·exact ⟨0, 0, by simp only [putSel, Bool.false_eq_true, if_false], fun _ => HQ.out, fun h_ => absurd h_ (by decide), fun h_ => absurd h_ (by decide)⟩
 ·skip
  clear HQ
  refine steps_cons ?_ ?_
  ·rintro b a w' ⟨r, till, ha, F1, F2, F3⟩ hb_ hon hoff
   refine ⟨_, rfl, fun K hK => ?_⟩
   have e19 : a.tmps[19]? = some (.pointer (some ⟨bQ, 0, none⟩)) := by rw [ha]; exact (putSel_off rfl).trans rfl
   replace ha := Aside0.mk ha
   have h6 : b 6 = false := hoff 6 (by kernel_rfl)
   have c0 : w'.cell? ⟨bQ, 0, none⟩ = some (.int .i64 fr) := (blk_cell (F1 h6).q 0).trans Hcs0.out
   refine value_ (w1 := w') (v := .int .i64 fr) (by rfl) rfl ?_ ?_
   ·go_simp
    (try simp only [i64_w])
    try rfl
   exact hK.out _ _ ⟨r, till, (by rw [ha.out]; exact putSel_upk 0 hb_ rfl rfl rfl), F1, F2, F3⟩
  refine steps_cons ?_ ?_
  ·rintro b a w' ⟨r, till, ha, F1, F2, F3⟩ hb_ hon hoff
   refine ⟨_, rfl, fun K hK => ?_⟩
   have e21 : a.tmps[21]? = some (.pointer (some ⟨bS, 0, none⟩)) := by rw [ha]; exact (putSel_off rfl).trans rfl
   replace ha := Aside0.mk ha
   have h6 : b 6 = false := hoff 6 (by kernel_rfl)
   refine goes_ Tryz.func18 (by kernel_rfl) rfl #[.pointer (some ⟨bS, 0, none⟩), .int .i64 20] (by rfl) rfl rfl (by first | (simp only [List.map_toArray, List.map_cons, List.map_nil, Act.eval, Array.getD_eq_getD_getElem?, Option.getD_some, e21]; done) | (simp only [List.map_toArray, List.map_cons, List.map_nil, Act.eval, Array.getD_eq_getD_getElem?, Option.getD_some, e21]; rfl)) ?_
   refine (HNx.out 20 (by decide) (by decide) w' (F1 h6).src).mono ?_
   rintro e w26 ⟨q, rfl, hq0, hq1, hs_, hk_⟩
   refine ⟨_, rfl, ?_⟩
   have G := (F1 h6).next hs_ hk_
   exact hK.out _ _ ⟨q, till, (by rw [ha.out]; exact putSel_upk 1 hb_ rfl rfl rfl), fun _ => G, fun h => absurd (h6.symm.trans h) (by decide), fun _ => ⟨hq0, hq1⟩⟩
  refine steps_cons ?_ ?_
  ·rintro b a w' ⟨r, till, ha, F1, F2, F3⟩ hb_ hon hoff
   refine ⟨_, rfl, fun K hK => ?_⟩
   have e20 : a.tmps[20]? = some (.int .i64 fr) := by rw [ha]; exact putSel_on (e := (1, 20, .int .i64 fr)) 0 rfl rfl (hon 1 (by kernel_rfl)) rfl
   have e22 : a.tmps[22]? = some (.int .i64 r) := by rw [ha]; exact putSel_on (e := (3, 22, .int .i64 r)) 1 rfl rfl (hon 3 (by kernel_rfl)) rfl
   replace ha := Aside0.mk ha
   have h6 : b 6 = false := hoff 6 (by kernel_rfl)
   obtain ⟨l0, l1⟩ := F3 (hon 3 (by kernel_rfl))
   have f0 := Hfr.out.1
   have f1 := Hfr.out.2
   have hw_ : IntKind.i64.wrap (fr + r) = fr + r := IntWalk.i64_in _ (by omega)
   refine value_ (w1 := w') (v := .int .i64 (fr + r)) (by rfl) rfl ?_ ?_
   ·go_simp
    (try simp only [i64_w])
    try rfl
   exact hK.out _ _ ⟨r, fr + r, (by rw [ha.out]; exact putSel_upk 2 hb_ rfl rfl rfl), F1, fun h => absurd (h6.symm.trans h) (by decide), F3⟩
  refine steps_cons ?_ ?_
  ·rintro b a w' ⟨r, till, ha, F1, F2, F3⟩ hb_ hon hoff
   refine ⟨_, rfl, fun K hK => ?_⟩
   have e4 : a.tmps[4]? = some (.pointer (some ⟨bQ, 0, none⟩)) := by rw [ha]; exact (putSel_off rfl).trans rfl
   replace ha := Aside0.mk ha
   have h6 : b 6 = false := hoff 6 (by kernel_rfl)
   refine value_ (w1 := w') (v := .pointer (some ⟨bQ, 1, none⟩)) (by rfl) rfl ?_ ?_
   ·go_simp
    (try simp only [i64_w])
    try rfl
   exact hK.out _ _ ⟨r, till, (by rw [ha.out]; exact putSel_upk 3 hb_ rfl rfl rfl), F1, F2, F3⟩
  refine steps_cons ?_ ?_
  ·rintro b a w' ⟨r, till, ha, F1, F2, F3⟩ hb_ hon hoff
   refine ⟨_, rfl, fun K hK => ?_⟩
   have e23 : a.tmps[23]? = some (.int .i64 till) := by rw [ha]; exact putSel_on (e := (4, 23, .int .i64 till)) 2 rfl rfl (hon 4 (by kernel_rfl)) rfl
   have e24 : a.tmps[24]? = some (.pointer (some ⟨bQ, 1, none⟩)) := by rw [ha]; exact putSel_on (e := (5, 24, .pointer (some ⟨bQ, 1, none⟩))) 3 rfl rfl (hon 5 (by kernel_rfl)) rfl
   replace ha := Aside0.mk ha
   have Q1 := F1 hb_
   have c1 : w'.cell? ⟨bQ, 1, none⟩ = some (.int .i64 0) := (blk_cell Q1.q 1).trans Hcs1.out
   have f1 := blk_frozen Q1.q 1
   refine skip_ (w1 := w'.setCell ⟨bQ, 1, none⟩ (.int .i64 till)) (by rfl) rfl ?_ ?_
   ·go_simp
    try rfl
   exact hK.out _ _ ⟨r, till, (by rw [ha.out]; exact putSel_none (v := undef) rfl), fun h => absurd ((up_self b 6).symm.trans h) (by decide), fun _ => Q1.set 1 _, F3⟩
  exact steps_nil
 rintro b a V3 hall ⟨r, till, ha, F1, F2, F3⟩
 have hQ3 := F2 (hall 6 (by kernel_rfl))
 have hb1_ := hall 1 (by kernel_rfl)
 have hb3_ := hall 3 (by kernel_rfl)
 have hb4_ := hall 4 (by kernel_rfl)
 have hb5_ := hall 5 (by kernel_rfl)
 subst ha
 simp only [putSel, hb1_, hb3_, hb4_, hb5_, if_true, Act.put, List.setIfInBounds_toArray, List.set_cons_zero, List.set_cons_succ]
 clear HQ
 have HQ := Aside0.mk hQ3
 clear hQ3 F1 F2 F3 hall hb1_ hb3_ hb4_ hb5_
 replace HQ := Aside0.mk (Hcs'.out till ▸ HQ.out)
 clear Hcs' Hcs0 Hcs1 Hfr cs
 go_wp2_with fail
 ((refine (HNx.out 3 (by decide) (by decide) _ HQ.out.src).mono ?_); rintro e V4 ⟨r5, rfl, a0, a1, hs_, hk_⟩)
 replace HQ := Aside0.mk (HQ.out.next hs_ hk_)
 clear hs_ hk_
 obtain ⟨k, hk⟩ : ∃ k : Nat, r5 = (k : Int) := ⟨r5.toNat, by omega⟩
 subst hk
 have Hk : Aside0 (k + ([] : List Mt).length ≤ 1000) := ⟨by simp; omega⟩
 clear a0 a1
 go_wp2_with fail
 go_loopw [5] (fun t5 wr => ∃ (k : Nat) (mv : Value) (ms : List Mt), t5 = .int .i64 (k : Int) ∧ Aside0 (k + ms.length ≤ 1000) ∧ Aside0 (QW W bR bS bQ L (qCells fr till mv 0 ⟨#[]⟩ ⟨#[]⟩ (.slice none 0 0) desc lim ⟨#[]⟩) mv ms wr)) (fun t5 _ => (intOf t5).toNat)
 case atStart => exact ⟨k, _, [], rfl, Hk, HQ⟩
 case round =>
  clear HQ Hk
  obtain ⟨n, mv, ms, rfl, Hk, HQ⟩ := hrel
  by_cases hlt : 0 < n
  ·have c0 : decide (0 < n) = true := decide_eq_true hlt
   have Hlt := Aside0.mk hlt
   clear hlt
   obtain ⟨cs, hcs⟩ : ∃ cs, cs = qCells fr till mv 0 ⟨#[]⟩ ⟨#[]⟩ (.slice none 0 0) desc lim ⟨#[]⟩ := ⟨_, rfl⟩
   rw [← hcs] at HQ
   have Hcs : Aside0 (cs[2]? = some mv) := ⟨by rw [hcs]; rfl⟩
   have Hcs' : Aside0 (∀ v, cs.setIfInBounds 2 v = qCells fr till v 0 ⟨#[]⟩ ⟨#[]⟩ (.slice none 0 0) desc lim ⟨#[]⟩) := ⟨fun v => by rw [hcs]; rfl⟩
   have Hms : Aside0 (ms.length ≤ 1000) := ⟨by have := Hk.out; omega⟩
   clear hcs
   obtain ⟨V, hV⟩ : ∃ V, V = wr := ⟨_, rfl⟩
   subst hV
   go_wp2_with fail
   clear c0
   refine start_ (n := 20) (S := fun w' => True) (ds := []) #[false, false, false, false, false, false, false, false, false, false, false, false, false, false, false, false, false, false, false, false] (by kernel_rfl) rfl rfl trivial (fun hHeld => ?_); refine with_tabW tab_magpieref06_Query_7 bits_magpieref06_Query_7 (fun HT_ HW_ => ?_)
   replace HQ := Aside0.mk HQ.out.drew
   change Aside0 (QW W bR bS bQ L cs mv ms (World.drew V)) at HQ
   generalize World.drew V = V2 at *
   clear hHeld
   refine pure_ (i := 0) (N := some 31) (v := ?_) (a' := ?_) #[true, false, false, false, false, false, false, false, false, false, false, false, false, false, false, false, false, false, false, false] rfl rfl (any_of HT_.out (by kernel_rfl)) (fun _ _ _ h => h) (Or.inl ⟨by rfl, ?_⟩) ?_ ?_
   rotate_left
   ·intro w_
    go_simp
    try with_reducible rfl
   rotate_left
   ·simp only [Act.put, List.setIfInBounds_toArray, List.set_cons_zero, List.set_cons_succ, i64_w, i32_w]
    rfl
   refine pure_ (i := 3) (N := some 34) (v := ?_) (a' := ?_) #[true, false, false, true, false, false, false, false, false, false, false, false, false, false, false, false, false, false, false, false] rfl rfl (any_of HT_.out (by kernel_rfl)) (fun _ _ _ h => h) (Or.inl ⟨by rfl, ?_⟩) ?_ ?_
   rotate_left
   ·intro w_
    go_simp
    try with_reducible rfl
   rotate_left
   ·simp only [Act.put, List.setIfInBounds_toArray, List.set_cons_zero, List.set_cons_succ, i64_w, i32_w]
    rfl
   refine pure_ (i := 7) (N := some 38) (v := ?_) (a' := ?_) #[true, false, false, true, false, false, false, true, false, false, false, false, false, false, false, false, false, false, false, false] rfl rfl (any_of HT_.out (by kernel_rfl)) (fun _ _ _ h => h) (Or.inl ⟨by rfl, ?_⟩) ?_ ?_
   rotate_left
   ·intro w_
    go_simp
    try with_reducible rfl
   rotate_left
   ·simp only [Act.put, List.setIfInBounds_toArray, List.set_cons_zero, List.set_cons_succ, i64_w, i32_w]
    rfl
   refine pure_ (i := 11) (N := some 42) (v := ?_) (a' := ?_) #[true, false, false, true, false, false, false, true, false, false, false, true, false, false, false, false, false, false, false, false] rfl rfl (any_of HT_.out (by kernel_rfl)) (fun _ _ _ h => h) (Or.inl ⟨by rfl, ?_⟩) ?_ ?_
   rotate_left
   ·intro w_
    go_simp
    try with_reducible rfl
   rotate_left
   ·simp only [Act.put, List.setIfInBounds_toArray, List.set_cons_zero, List.set_cons_succ, i64_w, i32_w]
    rfl
   refine inv_at [1, 2, 4, 5, 6, 8, 9, 10, 12, 13, 14, 15, 16, 17, 18, 19] (fun a0_ b a w' => ∃ (x y z : Nat) (r4 r8 r12 : Int) (m36 : Value) (s37 : ByteArray) (b40 : Bool) (m44 : Value) (s45 : ByteArray) (m46 w17 : Value), a = putSel a0_ b [(1, 32, mv), (2, 33, .slice (some ⟨x, 0, none⟩) 3 3), (4, 35, .int .i64 r4), (5, 36, m36), (6, 37, .string s37), (8, 39, .int .i64 r8), (9, 40, .bool b40), (10, 41, .slice (some ⟨y, 0, none⟩) 4 4), (12, 43, .int .i64 r12), (13, 44, m44), (14, 45, .string s45), (15, 46, m46), (16, 47, .slice (some ⟨z, 0, none⟩) 1 1), (17, 48, w17), (18, 49, .pointer (some ⟨bQ, 2, none⟩))] ∧ RF W bR bS bQ L cs mv ms b w' x y z r4 r12 m36 s37 b40 m44 s45 m46 w17) HT_.out HW_.out (by kernel_rfl) (by kernel_rfl) ?_ ?_ ?_
   ·exact ⟨0, 0, 0, 0, 0, 0, undef, ⟨#[]⟩, false, undef, ⟨#[]⟩, undef, undef, by simp only [putSel, Bool.false_eq_true, if_false], { qw := fun _ => HQ.out, qw2 := fun h_ => absurd h_ (by decide), qw3 := fun h_ => absurd h_ (by decide), hx := fun h_ => absurd h_ (by decide), hy := fun h_ => absurd h_ (by decide), hz := fun h_ => absurd h_ (by decide), h4 := fun h_ => absurd h_ (by decide), h5 := fun h_ => absurd h_ (by decide), h6 := fun h_ => absurd h_ (by decide), h12 := fun h_ => absurd h_ (by decide), h13 := fun h_ => absurd h_ (by decide), h14 := fun h_ => absurd h_ (by decide), h15 := fun h_ => absurd h_ (by decide) }⟩
   ·skip
    clear HQ
    refine steps_cons ?_ ?_
    ·rintro b a w' ⟨x, y, z, r4, r8, r12, m36, s37, b40, m44, s45, m46, w17, ha, F⟩ hb_ hon hoff
     refine ⟨_, rfl, fun K hK => ?_⟩
     have e31 : a.tmps[31]? = some (.pointer (some ⟨bQ, 2, none⟩)) := by rw [ha]; exact (putSel_off rfl).trans rfl
     replace ha := Aside0.mk ha
     have h17 : b 17 = false := hoff 17 (by kernel_rfl)
     have h19 : b 19 = false := hoff 19 (by kernel_rfl)
     have c2 : w'.cell? ⟨bQ, 2, none⟩ = some mv := (blk_cell (F.qw h17).q 2).trans Hcs.out
     refine value_ (w1 := w') (v := mv) (by rfl) rfl ?_ ?_
     ·go_simp
      (try simp only [i64_w])
      try rfl
     refine hK.out _ _ ⟨x, y, z, r4, r8, r12, m36, s37, b40, m44, s45, m46, w17, (by rw [ha.out]; exact putSel_upk 0 hb_ rfl rfl rfl), ?_⟩
     exact { F with qw := F.qw }
    refine steps_cons ?_ ?_
    ·rintro b a w' ⟨x, y, z, r4, r8, r12, m36, s37, b40, m44, s45, m46, w17, ha, F⟩ hb_ hon hoff
     refine ⟨_, rfl, fun K hK => ?_⟩
     replace ha := Aside0.mk ha
     have h17 : b 17 = false := hoff 17 (by kernel_rfl)
     have h19 : b 19 = false := hoff 19 (by kernel_rfl)
     refine value_ (w1 := ?_) (v := ?_) (by rfl) rfl ?_ ?_
     rotate_left 2
     ·go_simp
      constructor
      ·rfl
      ·rfl
     have hb0 := below_alloc (Below.refl _ w') (.cells #[.string ⟨#[97, 112, 112]⟩, .string ⟨#[101, 110, 118]⟩, .string ⟨#[122, 111, 110, 101]⟩] 9)
     have G := F.below h17 h19 hb0
     refine hK.out _ _ ⟨w'.heap.size, y, z, r4, r8, r12, m36, s37, b40, m44, s45, m46, w17, (by rw [ha.out]; exact putSel_upk 1 hb_ rfl rfl rfl), ?_⟩
     exact { G with qw := G.qw, hx := fun _ _ => Go.heap_alloc_new w' _, h5 := fun h => absurd ((hoff 5 (by kernel_rfl)).symm.trans h) (by decide) }
    refine steps_cons ?_ ?_
    ·rintro b a w' ⟨x, y, z, r4, r8, r12, m36, s37, b40, m44, s45, m46, w17, ha, F⟩ hb_ hon hoff
     refine ⟨_, rfl, fun K hK => ?_⟩
     have e34 : a.tmps[34]? = some (.pointer (some ⟨bS, 0, none⟩)) := by rw [ha]; exact (putSel_off rfl).trans rfl
     replace ha := Aside0.mk ha
     have h17 : b 17 = false := hoff 17 (by kernel_rfl)
     have h19 : b 19 = false := hoff 19 (by kernel_rfl)
     refine goes_ Tryz.func18 (by kernel_rfl) rfl #[.pointer (some ⟨bS, 0, none⟩), .int .i64 3] (by rfl) rfl rfl (by first | (simp only [List.map_toArray, List.map_cons, List.map_nil, Act.eval, Array.getD_eq_getD_getElem?, Option.getD_some, e34]; done) | (simp only [List.map_toArray, List.map_cons, List.map_nil, Act.eval, Array.getD_eq_getD_getElem?, Option.getD_some, e34]; rfl)) ?_
     refine (HNx.out 3 (by decide) (by decide) w' (F.qw h17).src).mono ?_
     rintro e w26 ⟨q, rfl, hq0, hq1, hs_, hk_⟩
     refine ⟨_, rfl, ?_⟩
     have G := F.next h17 h19 hs_ hk_
     refine hK.out _ _ ⟨x, y, z, q, r8, r12, m36, s37, b40, m44, s45, m46, w17, (by rw [ha.out]; exact putSel_upk 2 hb_ rfl rfl rfl), ?_⟩
     exact { G with qw := G.qw, h4 := fun _ => ⟨hq0, hq1⟩, h5 := fun h => absurd ((hoff 5 (by kernel_rfl)).symm.trans h) (by decide) }
    refine steps_cons ?_ ?_
    ·rintro b a w' ⟨x, y, z, r4, r8, r12, m36, s37, b40, m44, s45, m46, w17, ha, F⟩ hb_ hon hoff
     refine ⟨_, rfl, fun K hK => ?_⟩
     have e33 : a.tmps[33]? = some (.slice (some ⟨x, 0, none⟩) 3 3) := by rw [ha]; exact putSel_on (e := (2, 33, .slice (some ⟨x, 0, none⟩) 3 3)) 1 rfl rfl (hon 2 (by kernel_rfl)) rfl
     have e35 : a.tmps[35]? = some (.int .i64 r4) := by rw [ha]; exact putSel_on (e := (4, 35, .int .i64 r4)) 2 rfl rfl (hon 4 (by kernel_rfl)) rfl
     replace ha := Aside0.mk ha
     have h17 : b 17 = false := hoff 17 (by kernel_rfl)
     have h19 : b 19 = false := hoff 19 (by kernel_rfl)
     have pi_ : (0 ≤ r4) = True := eq_true (F.h4 (hon 4 (by kernel_rfl))).1
     have qi_ : (r4 < 3) = True := eq_true (F.h4 (hon 4 (by kernel_rfl))).2
     refine value_ (w1 := w') (v := .pointer (some ((⟨x, 0, none⟩ : Addr).add r4.toNat))) (by rfl) rfl ?_ ?_
     ·go_simp
      (try simp only [i64_w])
      try rfl
     refine hK.out _ _ ⟨x, y, z, r4, r8, r12, .pointer (some ((⟨x, 0, none⟩ : Addr).add r4.toNat)), s37, b40, m44, s45, m46, w17, (by rw [ha.out]; exact putSel_upk 3 hb_ rfl rfl rfl), ?_⟩
     exact { F with qw := F.qw, h5 := fun _ => rfl }
    refine steps_cons ?_ ?_
    ·rintro b a w' ⟨x, y, z, r4, r8, r12, m36, s37, b40, m44, s45, m46, w17, ha, F⟩ hb_ hon hoff
     refine ⟨_, rfl, fun K hK => ?_⟩
     have e36 : a.tmps[36]? = some (m36) := by rw [ha]; exact putSel_on (e := (5, 36, m36)) 3 rfl rfl (hon 5 (by kernel_rfl)) rfl
     replace ha := Aside0.mk ha
     have h17 : b 17 = false := hoff 17 (by kernel_rfl)
     have h19 : b 19 = false := hoff 19 (by kernel_rfl)
     rw [F.h5 (hon 5 (by kernel_rfl))] at e36
     obtain ⟨s, hs, hc⟩ := pick3 (F.hx (hon 2 (by kernel_rfl)) h17) (by decide) (by decide) (by decide) r4 (F.h4 (hon 4 (by kernel_rfl))).1 (F.h4 (hon 4 (by kernel_rfl))).2
     refine value_ (w1 := w') (v := .string s) (by rfl) rfl ?_ ?_
     ·go_simp
      (try simp only [i64_w])
      try rfl
     refine hK.out _ _ ⟨x, y, z, r4, r8, r12, m36, s, b40, m44, s45, m46, w17, (by rw [ha.out]; exact putSel_upk 4 hb_ rfl rfl rfl), ?_⟩
     exact { F with qw := F.qw, h6 := fun _ => hs, hz := fun h => absurd ((hoff 16 (by kernel_rfl)).symm.trans h) (by decide), h15 := fun h => absurd ((hoff 15 (by kernel_rfl)).symm.trans h) (by decide) }
    refine steps_cons ?_ ?_
    ·rintro b a w' ⟨x, y, z, r4, r8, r12, m36, s37, b40, m44, s45, m46, w17, ha, F⟩ hb_ hon hoff
     refine ⟨_, rfl, fun K hK => ?_⟩
     have e38 : a.tmps[38]? = some (.pointer (some ⟨bS, 0, none⟩)) := by rw [ha]; exact (putSel_off rfl).trans rfl
     replace ha := Aside0.mk ha
     have h17 : b 17 = false := hoff 17 (by kernel_rfl)
     have h19 : b 19 = false := hoff 19 (by kernel_rfl)
     refine goes_ Tryz.func18 (by kernel_rfl) rfl #[.pointer (some ⟨bS, 0, none⟩), .int .i64 3] (by rfl) rfl rfl (by first | (simp only [List.map_toArray, List.map_cons, List.map_nil, Act.eval, Array.getD_eq_getD_getElem?, Option.getD_some, e38]; done) | (simp only [List.map_toArray, List.map_cons, List.map_nil, Act.eval, Array.getD_eq_getD_getElem?, Option.getD_some, e38]; rfl)) ?_
     refine (HNx.out 3 (by decide) (by decide) w' (F.qw h17).src).mono ?_
     rintro e w26 ⟨q, rfl, hq0, hq1, hs_, hk_⟩
     refine ⟨_, rfl, ?_⟩
     have G := F.next h17 h19 hs_ hk_
     refine hK.out _ _ ⟨x, y, z, r4, q, r12, m36, s37, b40, m44, s45, m46, w17, (by rw [ha.out]; exact putSel_upk 5 hb_ rfl rfl rfl), ?_⟩
     exact { G with qw := G.qw }
    refine steps_cons ?_ ?_
    ·rintro b a w' ⟨x, y, z, r4, r8, r12, m36, s37, b40, m44, s45, m46, w17, ha, F⟩ hb_ hon hoff
     refine ⟨_, rfl, fun K hK => ?_⟩
     have e39 : a.tmps[39]? = some (.int .i64 r8) := by rw [ha]; exact putSel_on (e := (8, 39, .int .i64 r8)) 5 rfl rfl (hon 8 (by kernel_rfl)) rfl
     replace ha := Aside0.mk ha
     have h17 : b 17 = false := hoff 17 (by kernel_rfl)
     have h19 : b 19 = false := hoff 19 (by kernel_rfl)
     refine value_ (w1 := w') (v := .bool (r8 == 1)) (by rfl) rfl ?_ ?_
     ·go_simp
      (try simp only [i64_w])
      try rfl
     refine hK.out _ _ ⟨x, y, z, r4, r8, r12, m36, s37, (r8 == 1), m44, s45, m46, w17, (by rw [ha.out]; exact putSel_upk 6 hb_ rfl rfl rfl), ?_⟩
     exact { F with qw := F.qw, hz := fun h => absurd ((hoff 16 (by kernel_rfl)).symm.trans h) (by decide), h15 := fun h => absurd ((hoff 15 (by kernel_rfl)).symm.trans h) (by decide) }
    refine steps_cons ?_ ?_
    ·rintro b a w' ⟨x, y, z, r4, r8, r12, m36, s37, b40, m44, s45, m46, w17, ha, F⟩ hb_ hon hoff
     refine ⟨_, rfl, fun K hK => ?_⟩
     replace ha := Aside0.mk ha
     have h17 : b 17 = false := hoff 17 (by kernel_rfl)
     have h19 : b 19 = false := hoff 19 (by kernel_rfl)
     refine value_ (w1 := ?_) (v := ?_) (by rfl) rfl ?_ ?_
     rotate_left 2
     ·go_simp
      constructor
      ·rfl
      ·rfl
     have hb0 := below_alloc (Below.refl _ w') (.cells #[.string ⟨#[97]⟩, .string ⟨#[98]⟩, .string ⟨#[]⟩, .string ⟨#[120, 32, 121]⟩] 9)
     have G := F.below h17 h19 hb0
     refine hK.out _ _ ⟨x, w'.heap.size, z, r4, r8, r12, m36, s37, b40, m44, s45, m46, w17, (by rw [ha.out]; exact putSel_upk 7 hb_ rfl rfl rfl), ?_⟩
     exact { G with qw := G.qw, hy := fun _ _ => Go.heap_alloc_new w' _, h13 := fun h => absurd ((hoff 13 (by kernel_rfl)).symm.trans h) (by decide) }
    refine steps_cons ?_ ?_
    ·rintro b a w' ⟨x, y, z, r4, r8, r12, m36, s37, b40, m44, s45, m46, w17, ha, F⟩ hb_ hon hoff
     refine ⟨_, rfl, fun K hK => ?_⟩
     have e42 : a.tmps[42]? = some (.pointer (some ⟨bS, 0, none⟩)) := by rw [ha]; exact (putSel_off rfl).trans rfl
     replace ha := Aside0.mk ha
     have h17 : b 17 = false := hoff 17 (by kernel_rfl)
     have h19 : b 19 = false := hoff 19 (by kernel_rfl)
     refine goes_ Tryz.func18 (by kernel_rfl) rfl #[.pointer (some ⟨bS, 0, none⟩), .int .i64 4] (by rfl) rfl rfl (by first | (simp only [List.map_toArray, List.map_cons, List.map_nil, Act.eval, Array.getD_eq_getD_getElem?, Option.getD_some, e42]; done) | (simp only [List.map_toArray, List.map_cons, List.map_nil, Act.eval, Array.getD_eq_getD_getElem?, Option.getD_some, e42]; rfl)) ?_
     refine (HNx.out 4 (by decide) (by decide) w' (F.qw h17).src).mono ?_
     rintro e w26 ⟨q, rfl, hq0, hq1, hs_, hk_⟩
     refine ⟨_, rfl, ?_⟩
     have G := F.next h17 h19 hs_ hk_
     refine hK.out _ _ ⟨x, y, z, r4, r8, q, m36, s37, b40, m44, s45, m46, w17, (by rw [ha.out]; exact putSel_upk 8 hb_ rfl rfl rfl), ?_⟩
     exact { G with qw := G.qw, h12 := fun _ => ⟨hq0, hq1⟩, h13 := fun h => absurd ((hoff 13 (by kernel_rfl)).symm.trans h) (by decide) }
    refine steps_cons ?_ ?_
    ·rintro b a w' ⟨x, y, z, r4, r8, r12, m36, s37, b40, m44, s45, m46, w17, ha, F⟩ hb_ hon hoff
     refine ⟨_, rfl, fun K hK => ?_⟩
     have e41 : a.tmps[41]? = some (.slice (some ⟨y, 0, none⟩) 4 4) := by rw [ha]; exact putSel_on (e := (10, 41, .slice (some ⟨y, 0, none⟩) 4 4)) 7 rfl rfl (hon 10 (by kernel_rfl)) rfl
     have e43 : a.tmps[43]? = some (.int .i64 r12) := by rw [ha]; exact putSel_on (e := (12, 43, .int .i64 r12)) 8 rfl rfl (hon 12 (by kernel_rfl)) rfl
     replace ha := Aside0.mk ha
     have h17 : b 17 = false := hoff 17 (by kernel_rfl)
     have h19 : b 19 = false := hoff 19 (by kernel_rfl)
     have pi_ : (0 ≤ r12) = True := eq_true (F.h12 (hon 12 (by kernel_rfl))).1
     have qi_ : (r12 < 4) = True := eq_true (F.h12 (hon 12 (by kernel_rfl))).2
     refine value_ (w1 := w') (v := .pointer (some ((⟨y, 0, none⟩ : Addr).add r12.toNat))) (by rfl) rfl ?_ ?_
     ·go_simp
      (try simp only [i64_w])
      try rfl
     refine hK.out _ _ ⟨x, y, z, r4, r8, r12, m36, s37, b40, .pointer (some ((⟨y, 0, none⟩ : Addr).add r12.toNat)), s45, m46, w17, (by rw [ha.out]; exact putSel_upk 9 hb_ rfl rfl rfl), ?_⟩
     exact { F with qw := F.qw, h13 := fun _ => rfl }
    refine steps_cons ?_ ?_
    ·rintro b a w' ⟨x, y, z, r4, r8, r12, m36, s37, b40, m44, s45, m46, w17, ha, F⟩ hb_ hon hoff
     refine ⟨_, rfl, fun K hK => ?_⟩
     have e44 : a.tmps[44]? = some (m44) := by rw [ha]; exact putSel_on (e := (13, 44, m44)) 9 rfl rfl (hon 13 (by kernel_rfl)) rfl
     replace ha := Aside0.mk ha
     have h17 : b 17 = false := hoff 17 (by kernel_rfl)
     have h19 : b 19 = false := hoff 19 (by kernel_rfl)
     rw [F.h13 (hon 13 (by kernel_rfl))] at e44
     obtain ⟨s, hs, hc⟩ := pick4 (F.hy (hon 10 (by kernel_rfl)) h17) (by decide) (by decide) (by decide) (by decide) r12 (F.h12 (hon 12 (by kernel_rfl))).1 (F.h12 (hon 12 (by kernel_rfl))).2
     refine value_ (w1 := w') (v := .string s) (by rfl) rfl ?_ ?_
     ·go_simp
      (try simp only [i64_w])
      try rfl
     refine hK.out _ _ ⟨x, y, z, r4, r8, r12, m36, s37, b40, m44, s, m46, w17, (by rw [ha.out]; exact putSel_upk 10 hb_ rfl rfl rfl), ?_⟩
     exact { F with qw := F.qw, h14 := fun _ => hs, hz := fun h => absurd ((hoff 16 (by kernel_rfl)).symm.trans h) (by decide), h15 := fun h => absurd ((hoff 15 (by kernel_rfl)).symm.trans h) (by decide) }
    refine steps_cons ?_ ?_
    ·rintro b a w' ⟨x, y, z, r4, r8, r12, m36, s37, b40, m44, s45, m46, w17, ha, F⟩ hb_ hon hoff
     refine ⟨_, rfl, fun K hK => ?_⟩
     have e37 : a.tmps[37]? = some (.string s37) := by rw [ha]; exact putSel_on (e := (6, 37, .string s37)) 4 rfl rfl (hon 6 (by kernel_rfl)) rfl
     have e40 : a.tmps[40]? = some (.bool b40) := by rw [ha]; exact putSel_on (e := (9, 40, .bool b40)) 6 rfl rfl (hon 9 (by kernel_rfl)) rfl
     have e45 : a.tmps[45]? = some (.string s45) := by rw [ha]; exact putSel_on (e := (14, 45, .string s45)) 10 rfl rfl (hon 14 (by kernel_rfl)) rfl
     replace ha := Aside0.mk ha
     have h17 : b 17 = false := hoff 17 (by kernel_rfl)
     have h19 : b 19 = false := hoff 19 (by kernel_rfl)
     refine value_ (w1 := w') (v := .agg #[.string s37, .bool b40, .string s45]) (by rfl) rfl ?_ ?_
     ·go_simp
      (try simp only [i64_w])
      try rfl
     refine hK.out _ _ ⟨x, y, z, r4, r8, r12, m36, s37, b40, m44, s45, .agg #[.string s37, .bool b40, .string s45], w17, (by rw [ha.out]; exact putSel_upk 11 hb_ rfl rfl rfl), ?_⟩
     exact { F with qw := F.qw, h15 := fun _ => rfl }
    refine steps_cons ?_ ?_
    ·rintro b a w' ⟨x, y, z, r4, r8, r12, m36, s37, b40, m44, s45, m46, w17, ha, F⟩ hb_ hon hoff
     refine ⟨_, rfl, fun K hK => ?_⟩
     have e46 : a.tmps[46]? = some (m46) := by rw [ha]; exact putSel_on (e := (15, 46, m46)) 11 rfl rfl (hon 15 (by kernel_rfl)) rfl
     replace ha := Aside0.mk ha
     have h17 : b 17 = false := hoff 17 (by kernel_rfl)
     have h19 : b 19 = false := hoff 19 (by kernel_rfl)
     rw [F.h15 (hon 15 (by kernel_rfl))] at e46
     refine value_ (w1 := ?_) (v := ?_) (by rfl) rfl ?_ ?_
     rotate_left 2
     ·go_simp
      constructor
      ·rfl
      ·rfl
     have hb0 := below_alloc (Below.refl _ w') (.cells #[.string s37, .bool b40, .string s45] 61)
     have G := F.below h17 h19 hb0
     refine hK.out _ _ ⟨x, y, w'.heap.size, r4, r8, r12, m36, s37, b40, m44, s45, m46, w17, (by rw [ha.out]; exact putSel_upk 12 hb_ rfl rfl rfl), ?_⟩
     exact { G with qw := G.qw, hz := fun _ _ => Go.heap_alloc_new w' _ }
    refine steps_cons ?_ ?_
    ·rintro b a w' ⟨x, y, z, r4, r8, r12, m36, s37, b40, m44, s45, m46, w17, ha, F⟩ hb_ hon hoff
     refine ⟨_, rfl, fun K hK => ?_⟩
     have e32 : a.tmps[32]? = some (mv) := by rw [ha]; exact putSel_on (e := (1, 32, mv)) 0 rfl rfl (hon 1 (by kernel_rfl)) rfl
     have e47 : a.tmps[47]? = some (.slice (some ⟨z, 0, none⟩) 1 1) := by rw [ha]; exact putSel_on (e := (16, 47, .slice (some ⟨z, 0, none⟩) 1 1)) 12 rfl rfl (hon 16 (by kernel_rfl)) rfl
     replace ha := Aside0.mk ha
     have h19 : b 19 = false := hoff 19 (by kernel_rfl)
     have Q0 := F.qw hb_
     obtain ⟨v', w1, hrun, ho, hg⟩ := app_mat W.heap.size w' mv ms z ⟨s37, b40, s45⟩ Q0.own (F.hz (hon 16 (by kernel_rfl)) hb_) Q0.src.base.size Hms.out
     have x32 : a.eval (.tmp 32) = mv := by simp only [Act.eval, Array.getD_eq_getD_getElem?, Option.getD_some, e32]
     have x47 : a.eval (.tmp 47) = .slice (some ⟨z, 0, none⟩) 1 1 := by simp only [Act.eval, Array.getD_eq_getD_getElem?, Option.getD_some, e47]
     refine value_ (w1 := w1) (v := v') (by rfl) rfl (append_runQ hrun x32 x47) ?_
     refine hK.out _ _ ⟨x, y, z, r4, r8, r12, m36, s37, b40, m44, s45, m46, v', (by rw [ha.out]; exact putSel_upk 13 hb_ rfl rfl rfl), ?_⟩
     refine { qw := fun h => absurd ((up_self b 17).symm.trans h) (by decide), qw2 := fun _ _ => ⟨⟨s37, b40, s45⟩, F.h6 (hon 6 (by kernel_rfl)), F.h14 (hon 14 (by kernel_rfl)), Q0.grown hg ho⟩, qw3 := fun h => absurd (h19.symm.trans h) (by decide), hx := fun _ h => absurd ((up_self b 17).symm.trans h) (by decide), hy := fun _ h => absurd ((up_self b 17).symm.trans h) (by decide), hz := fun _ h => absurd ((up_self b 17).symm.trans h) (by decide), h4 := F.h4, h5 := F.h5, h6 := F.h6, h12 := F.h12, h13 := F.h13, h14 := F.h14, h15 := F.h15 }
    refine steps_cons ?_ ?_
    ·rintro b a w' ⟨x, y, z, r4, r8, r12, m36, s37, b40, m44, s45, m46, w17, ha, F⟩ hb_ hon hoff
     refine ⟨_, rfl, fun K hK => ?_⟩
     have e4 : a.tmps[4]? = some (.pointer (some ⟨bQ, 0, none⟩)) := by rw [ha]; exact (putSel_off rfl).trans rfl
     replace ha := Aside0.mk ha
     have h19 : b 19 = false := hoff 19 (by kernel_rfl)
     refine value_ (w1 := w') (v := .pointer (some ⟨bQ, 2, none⟩)) (by rfl) rfl ?_ ?_
     ·go_simp
      (try simp only [i64_w])
      try rfl
     refine hK.out _ _ ⟨x, y, z, r4, r8, r12, m36, s37, b40, m44, s45, m46, w17, (by rw [ha.out]; exact putSel_upk 14 hb_ rfl rfl rfl), ?_⟩
     exact { F with qw := F.qw }
    refine steps_cons ?_ ?_
    ·rintro b a w' ⟨x, y, z, r4, r8, r12, m36, s37, b40, m44, s45, m46, w17, ha, F⟩ hb_ hon hoff
     refine ⟨_, rfl, fun K hK => ?_⟩
     have e48 : a.tmps[48]? = some (w17) := by rw [ha]; exact putSel_on (e := (17, 48, w17)) 13 rfl rfl (hon 17 (by kernel_rfl)) rfl
     have e49 : a.tmps[49]? = some (.pointer (some ⟨bQ, 2, none⟩)) := by rw [ha]; exact putSel_on (e := (18, 49, .pointer (some ⟨bQ, 2, none⟩))) 14 rfl rfl (hon 18 (by kernel_rfl)) rfl
     replace ha := Aside0.mk ha
     have h17 : b 17 = true := hon 17 (by kernel_rfl)
     obtain ⟨m, hm1, hm2, Q2⟩ := F.qw2 h17 hb_
     have c2 : w'.cell? ⟨bQ, 2, none⟩ = some mv := (blk_cell Q2.q 2).trans Hcs.out
     have f2 := blk_frozen Q2.q 2
     obtain ⟨Aw, cw, hw_, _⟩ := Q2.own.row
     have Hw := Aside0.mk hw_
     rw [hw_] at e48
     clear hw_
     refine skip_ (w1 := w'.setCell ⟨bQ, 2, none⟩ w17) (by rfl) rfl ?_ ?_
     ·go_simp
      (try rw [Hw.out, List.length_append])
      try rfl
     refine hK.out _ _ ⟨x, y, z, r4, r8, r12, m36, s37, b40, m44, s45, m46, w17, (by rw [ha.out]; exact putSel_none (v := undef) rfl), ?_⟩
     refine { qw := fun h => absurd (h17.symm.trans h) (by decide), qw2 := fun _ h => absurd ((up_self b 19).symm.trans h) (by decide), qw3 := fun _ => ⟨m, hm1, hm2, Q2.set 2 w17⟩, hx := fun _ h => absurd (h17.symm.trans h) (by decide), hy := fun _ h => absurd (h17.symm.trans h) (by decide), hz := fun _ h => absurd (h17.symm.trans h) (by decide), h4 := F.h4, h5 := F.h5, h6 := F.h6, h12 := F.h12, h13 := F.h13, h14 := F.h14, h15 := F.h15 }
    exact steps_nil
   rintro b a V3 hall ⟨x, y, z, r4, r8, r12, m36, s37, b40, m44, s45, m46, w17, ha, F⟩
   obtain ⟨m, hm1, hm2, hQ3⟩ := F.qw3 (hall 19 (by kernel_rfl))
   have hb1_ := hall 1 (by kernel_rfl)
   have hb2_ := hall 2 (by kernel_rfl)
   have hb4_ := hall 4 (by kernel_rfl)
   have hb5_ := hall 5 (by kernel_rfl)
   have hb6_ := hall 6 (by kernel_rfl)
   have hb8_ := hall 8 (by kernel_rfl)
   have hb9_ := hall 9 (by kernel_rfl)
   have hb10_ := hall 10 (by kernel_rfl)
   have hb12_ := hall 12 (by kernel_rfl)
   have hb13_ := hall 13 (by kernel_rfl)
   have hb14_ := hall 14 (by kernel_rfl)
   have hb15_ := hall 15 (by kernel_rfl)
   have hb16_ := hall 16 (by kernel_rfl)
   have hb17_ := hall 17 (by kernel_rfl)
   have hb18_ := hall 18 (by kernel_rfl)
   subst ha
   simp only [putSel, hb1_, hb2_, hb4_, hb5_, hb6_, hb8_, hb9_, hb10_, hb12_, hb13_, hb14_, hb15_, hb16_, hb17_, hb18_, if_true, Act.put, List.setIfInBounds_toArray, List.set_cons_zero, List.set_cons_succ]
   clear HQ
   have HQ := Aside0.mk hQ3
   have Hm := Aside0.mk (And.intro hm1 hm2)
   clear hQ3 hm1 hm2 F hall hb1_ hb2_ hb4_ hb5_ hb6_ hb8_ hb9_ hb10_ hb12_ hb13_ hb14_ hb15_ hb16_ hb17_ hb18_
   replace HQ := Aside0.mk (Hcs'.out w17 ▸ HQ.out)
   have c1 : (0 : Int) < (n : Int) := by have := Hlt.out; omega
   have c2 : (n : Int) ≤ 1000 := by have := Hk.out; omega
   go_wp2
   go_roundw
   case rel => exact ⟨n - 1, w17, ms ++ [m], by congr 1; omega, ⟨by have := Hk.out; have := Hlt.out; rw [List.length_append]; simp; omega⟩, HQ⟩
   case measure => simp [intOf]; omega
  ·obtain rfl : n = 0 := by omega
   have c0 : decide ((0 : Nat) < 0) = false := rfl
   have Hms : Aside0 (ms.length ≤ 1000) := ⟨by have := Hk.out; omega⟩
   clear hlt Hk
   obtain ⟨V, hV⟩ : ∃ V, V = wr := ⟨_, rfl⟩
   subst hV
   go_wp2_with fail
   ((refine (HMk.out _ HQ.out.src).mono ?_); rintro e V5 ⟨T, AT, cT, rfl, hok, hN, hs_, hk_⟩)
   have HN := Aside0.mk hN
   have Hok := Aside0.mk hok
   have HlQ : Aside0 (bQ < V.heap.size ∧ bS < V.heap.size ∧ bR < V.heap.size) := ⟨blk_lt HQ.out.q, by obtain ⟨_, _, _, h2, _⟩ := HQ.out.src; exact h2.lt, blk_lt HQ.out.res⟩
   replace HQ := Aside0.mk (HQ.out.next hs_ hk_)
   have Hk5 := Aside0.mk hk_
   clear hs_ hk_ hok hN
   unfold fv
   have hb := HQ.out.q
   unfold qCells at hb
   have k3 : V5.cell? ⟨bQ, 3, none⟩ = some _ := (blk_cell hb 3).trans rfl
   have k4 : V5.cell? ⟨bQ, 4, none⟩ = some _ := (blk_cell hb 4).trans rfl
   have k5 : V5.cell? ⟨bQ, 5, none⟩ = some _ := (blk_cell hb 5).trans rfl
   have k6 : V5.cell? ⟨bQ, 6, none⟩ = some _ := (blk_cell hb 6).trans rfl
   have f3 := blk_frozen hb 3
   have f4 := fun u => blk_frozen (blk_set hb 3 u) 4
   have f5 := fun u v => blk_frozen (blk_set (blk_set hb 3 u) 4 v) 5
   have f6 := fun u v x => blk_frozen (blk_set (blk_set (blk_set hb 3 u) 4 v) 5 x) 6
   clear hb
   go_wp2_with fail
   clear k3 k4 k5 k6 f3 f4 f5 f6
   have HlQ2 : Aside0 (bQ < V.heap.size ∧ bS < V.heap.size ∧ bR < V.heap.size ∧ V.heap.size ≤ V5.heap.size) := ⟨HlQ.out.1, HlQ.out.2.1, HlQ.out.2.2, Hk5.out.1⟩
   have HQ6 : Aside0 (QW W bR bS bQ L (qCells fr till mv T.f0 T.f1 T.f2 (.slice AT T.f3.length cT) desc lim ⟨#[]⟩) mv ms ((((V5.setCell ⟨bQ, 3, none⟩ (.int .i64 T.f0)).setCell ⟨bQ, 4, none⟩ (.string T.f1)).setCell ⟨bQ, 5, none⟩ (.string T.f2)).setCell ⟨bQ, 6, none⟩ (.slice AT T.f3.length cT))) := ⟨(((HQ.out.set 3 _).set 4 _).set 5 _).set 6 _⟩
   have HN6 : Aside0 (Kd.N k35 35 ((((V5.setCell ⟨bQ, 3, none⟩ (.int .i64 T.f0)).setCell ⟨bQ, 4, none⟩ (.string T.f1)).setCell ⟨bQ, 5, none⟩ (.string T.f2)).setCell ⟨bQ, 6, none⟩ (.slice AT T.f3.length cT)) V.heap.size (fun k => V.heap.size ≤ k) (.slice AT T.f3.length cT) T.f3) := ⟨by
    have h := HlQ2.out.1
    exact (Kd.N_far (Kd.N_far (Kd.N_far (Kd.N_far HN.out (p := ⟨bQ, 3, none⟩) (fun k hk => by show k ≠ bQ; omega) _) (p := ⟨bQ, 4, none⟩) (fun k hk => by show k ≠ bQ; omega) _) (p := ⟨bQ, 5, none⟩) (fun k hk => by show k ≠ bQ; omega) _) (p := ⟨bQ, 6, none⟩) (fun k hk => by show k ≠ bQ; omega) _)⟩
   have Hsz : Aside0 (V5.heap.size = ((((V5.setCell ⟨bQ, 3, none⟩ (.int .i64 T.f0)).setCell ⟨bQ, 4, none⟩ (.string T.f1)).setCell ⟨bQ, 5, none⟩ (.string T.f2)).setCell ⟨bQ, 6, none⟩ (.slice AT T.f3.length cT)).heap.size) := ⟨by simp [World.setCell]⟩
   obtain ⟨V6, hV6⟩ : ∃ V6, V6 = ((((V5.setCell ⟨bQ, 3, none⟩ (.int .i64 T.f0)).setCell ⟨bQ, 4, none⟩ (.string T.f1)).setCell ⟨bQ, 5, none⟩ (.string T.f2)).setCell ⟨bQ, 6, none⟩ (.slice AT T.f3.length cT)) := ⟨_, rfl⟩
   rw [← hV6] at HQ6 HN6 Hsz ⊢
   clear hV6 HQ HN HlQ Hk5
   ((refine (HNx.out 4 (by decide) (by decide) _ HQ6.out.src).mono ?_); rintro e V7 ⟨r7, rfl, a0, a1, hs_, hk_⟩)
   have HQ := Aside0.mk (HQ6.out.next hs_ hk_)
   have HN : Aside0 (Kd.N k35 35 V7 V.heap.size (fun k => V.heap.size ≤ k) (.slice AT T.f3.length cT) T.f3) := ⟨Kd.N_keep HN6.out hk_ (fun k hk => by have := HlQ2.out.2.1; omega)⟩
   clear hs_ hk_ HQ6 HN6 a0 a1 Hsz
   have Hfin : Aside0 (∀ (T' : S35) (A' : Option Addr) (c' : Nat) (V8 : World), OkT 4 T' → Kd.F k35 V8 (fun k => k ≠ bR) A' T'.f3.length T'.f3 → T'.f3.length ≤ c' → QW W bR bS bQ L (qCells fr till mv T'.f0 T'.f1 T'.f2 (.slice A' T'.f3.length c') desc lim ⟨#[]⟩) mv ms V8 →
     ∃ (A1 : Option Addr) (c1 : Nat), mv = .slice A1 ms.length c1 ∧ IsQ (setR V8 bR [.int .i64 fr, .int .i64 till, mv, .int .i64 T'.f0, .string T'.f1, .string T'.f2, .slice A' T'.f3.length c', .bool desc, .int .i64 lim, .string ⟨#[]⟩]) ⟨fr, till, ms, T', desc, lim⟩ A1 c1 A' c' ∧ Below W.heap.size W (setR V8 bR [.int .i64 fr, .int .i64 till, mv, .int .i64 T'.f0, .string T'.f1, .string T'.f2, .slice A' T'.f3.length c', .bool desc, .int .i64 lim, .string ⟨#[]⟩])) := ⟨fun T' A' c' V8 hT hF hc hQ => by
    have ho := hQ.own.block_ne hQ.res (by decide)
    obtain ⟨A1, c1, hm, hl, hR⟩ := (OwnM.setR hQ.own ho [.int .i64 fr, .int .i64 till, mv, .int .i64 T'.f0, .string T'.f1, .string T'.f2, .slice A' T'.f3.length c', .bool desc, .int .i64 lim, .string ⟨#[]⟩]).row
    exact ⟨A1, c1, hm, ⟨hR, hl, Hms.out, ⟨hT, Kd.F_now (F_setR hF _), hc⟩, Hlim.out⟩, below_setR hQ.src.base HbR.out _⟩⟩
   have HmvR := Aside0.mk HQ.out.own.row
   obtain ⟨A1, c1, hmv, _⟩ := HmvR.out
   clear HmvR
   subst hmv
   by_cases h7 : r7 = 0
   ·have d7 : (r7 == 0) = true := by simpa using h7
    clear h7
    have hb := HQ.out.q
    unfold qCells at hb
    have k0 : V7.cell? ⟨bQ, 0, none⟩ = some _ := (blk_cell hb 0).trans rfl
    have k1 : V7.cell? ⟨bQ, 1, none⟩ = some _ := (blk_cell hb 1).trans rfl
    have k2 : V7.cell? ⟨bQ, 2, none⟩ = some _ := (blk_cell hb 2).trans rfl
    have k3 : V7.cell? ⟨bQ, 3, none⟩ = some _ := (blk_cell hb 3).trans rfl
    have k4 : V7.cell? ⟨bQ, 4, none⟩ = some _ := (blk_cell hb 4).trans rfl
    have k5 : V7.cell? ⟨bQ, 5, none⟩ = some _ := (blk_cell hb 5).trans rfl
    have k6 : V7.cell? ⟨bQ, 6, none⟩ = some _ := (blk_cell hb 6).trans rfl
    have k7 : V7.cell? ⟨bQ, 7, none⟩ = some _ := (blk_cell hb 7).trans rfl
    have k8 : V7.cell? ⟨bQ, 8, none⟩ = some _ := (blk_cell hb 8).trans rfl
    have k9 : V7.cell? ⟨bQ, 9, none⟩ = some _ := (blk_cell hb 9).trans rfl
    have f3 := blk_frozen hb 3
    have f4 := fun u => blk_frozen (blk_set hb 3 u) 4
    have f5 := fun u v => blk_frozen (blk_set (blk_set hb 3 u) 4 v) 5
    have f6 := fun u v x => blk_frozen (blk_set (blk_set (blk_set hb 3 u) 4 v) 5 x) 6
    clear hb
    have HQ8 : Aside0 (QW W bR bS bQ L (qCells fr till (.slice A1 ms.length c1) 1 ⟨#[]⟩ ⟨#[]⟩ (.slice none 0 0) desc lim ⟨#[]⟩) (.slice A1 ms.length c1) ms ((((V7.setCell ⟨bQ, 3, none⟩ (.int .i64 1)).setCell ⟨bQ, 4, none⟩ (.string ⟨#[]⟩)).setCell ⟨bQ, 5, none⟩ (.string ⟨#[]⟩)).setCell ⟨bQ, 6, none⟩ (.slice none 0 0))) := ⟨(((HQ.out.set 3 _).set 4 _).set 5 _).set 6 _⟩
    obtain ⟨V8, hV8⟩ : ∃ V8, V8 = ((((V7.setCell ⟨bQ, 3, none⟩ (.int .i64 1)).setCell ⟨bQ, 4, none⟩ (.string ⟨#[]⟩)).setCell ⟨bQ, 5, none⟩ (.string ⟨#[]⟩)).setCell ⟨bQ, 6, none⟩ (.slice none 0 0)) := ⟨_, rfl⟩
    rw [← hV8] at HQ8
    have HV8 := Aside0.mk hV8
    clear hV8
    go_upto_region 11 with (fail)
    rw [← HV8.out]
    clear HV8 k0 k1 k2 k3 k4 k5 k6 k7 k8 k9 f3 f4 f5 f6
    have hb := HQ8.out.q
    unfold qCells at hb
    have k0 : V8.cell? ⟨bQ, 0, none⟩ = some _ := (blk_cell hb 0).trans rfl
    have k1 : V8.cell? ⟨bQ, 1, none⟩ = some _ := (blk_cell hb 1).trans rfl
    have k2 : V8.cell? ⟨bQ, 2, none⟩ = some _ := (blk_cell hb 2).trans rfl
    have k3 : V8.cell? ⟨bQ, 3, none⟩ = some _ := (blk_cell hb 3).trans rfl
    have k4 : V8.cell? ⟨bQ, 4, none⟩ = some _ := (blk_cell hb 4).trans rfl
    have k5 : V8.cell? ⟨bQ, 5, none⟩ = some _ := (blk_cell hb 5).trans rfl
    have k6 : V8.cell? ⟨bQ, 6, none⟩ = some _ := (blk_cell hb 6).trans rfl
    have k7 : V8.cell? ⟨bQ, 7, none⟩ = some _ := (blk_cell hb 7).trans rfl
    have k8 : V8.cell? ⟨bQ, 8, none⟩ = some _ := (blk_cell hb 8).trans rfl
    have k9 : V8.cell? ⟨bQ, 9, none⟩ = some _ := (blk_cell hb 9).trans rfl
    clear hb
    have hr := HQ8.out.res
    unfold qZero qCells at hr
    have m0 : V8.cell? ⟨bR, 0, none⟩ = some _ := (blk_cell hr 0).trans rfl
    have m1 : V8.cell? ⟨bR, 1, none⟩ = some _ := (blk_cell hr 1).trans rfl
    have m2 : V8.cell? ⟨bR, 2, none⟩ = some _ := (blk_cell hr 2).trans rfl
    have m3 : V8.cell? ⟨bR, 3, none⟩ = some _ := (blk_cell hr 3).trans rfl
    have m4 : V8.cell? ⟨bR, 4, none⟩ = some _ := (blk_cell hr 4).trans rfl
    have m5 : V8.cell? ⟨bR, 5, none⟩ = some _ := (blk_cell hr 5).trans rfl
    have m6 : V8.cell? ⟨bR, 6, none⟩ = some _ := (blk_cell hr 6).trans rfl
    have m7 : V8.cell? ⟨bR, 7, none⟩ = some _ := (blk_cell hr 7).trans rfl
    have m8 : V8.cell? ⟨bR, 8, none⟩ = some _ := (blk_cell hr 8).trans rfl
    have m9 : V8.cell? ⟨bR, 9, none⟩ = some _ := (blk_cell hr 9).trans rfl
    have f0 := blk_frozen hr 0
    have f1 := fun (u0 : Value) => blk_frozen (blk_set (hr) 0 u0) 1
    have f2 := fun (u0 : Value) (u1 : Value) => blk_frozen (blk_set (blk_set (hr) 0 u0) 1 u1) 2
    have f3 := fun (u0 : Value) (u1 : Value) (u2 : Value) => blk_frozen (blk_set (blk_set (blk_set (hr) 0 u0) 1 u1) 2 u2) 3
    have f4 := fun (u0 : Value) (u1 : Value) (u2 : Value) (u3 : Value) => blk_frozen (blk_set (blk_set (blk_set (blk_set (hr) 0 u0) 1 u1) 2 u2) 3 u3) 4
    have f5 := fun (u0 : Value) (u1 : Value) (u2 : Value) (u3 : Value) (u4 : Value) => blk_frozen (blk_set (blk_set (blk_set (blk_set (blk_set (hr) 0 u0) 1 u1) 2 u2) 3 u3) 4 u4) 5
    have f6 := fun (u0 : Value) (u1 : Value) (u2 : Value) (u3 : Value) (u4 : Value) (u5 : Value) => blk_frozen (blk_set (blk_set (blk_set (blk_set (blk_set (blk_set (hr) 0 u0) 1 u1) 2 u2) 3 u3) 4 u4) 5 u5) 6
    have f7 := fun (u0 : Value) (u1 : Value) (u2 : Value) (u3 : Value) (u4 : Value) (u5 : Value) (u6 : Value) => blk_frozen (blk_set (blk_set (blk_set (blk_set (blk_set (blk_set (blk_set (hr) 0 u0) 1 u1) 2 u2) 3 u3) 4 u4) 5 u5) 6 u6) 7
    have f8 := fun (u0 : Value) (u1 : Value) (u2 : Value) (u3 : Value) (u4 : Value) (u5 : Value) (u6 : Value) (u7 : Value) => blk_frozen (blk_set (blk_set (blk_set (blk_set (blk_set (blk_set (blk_set (blk_set (hr) 0 u0) 1 u1) 2 u2) 3 u3) 4 u4) 5 u5) 6 u6) 7 u7) 8
    have f9 := fun (u0 : Value) (u1 : Value) (u2 : Value) (u3 : Value) (u4 : Value) (u5 : Value) (u6 : Value) (u7 : Value) (u8 : Value) => blk_frozen (blk_set (blk_set (blk_set (blk_set (blk_set (blk_set (blk_set (blk_set (blk_set (hr) 0 u0) 1 u1) 2 u2) 3 u3) 4 u4) 5 u5) 6 u6) 7 u7) 8 u8) 9
    clear hr
    go_wp2_with fail
    obtain ⟨A1', c1', hm, hI, hB⟩ := Hfin.out ⟨1, ⟨#[]⟩, ⟨#[]⟩, []⟩ none 0 V8 (leaf_ok 3 1 (by decide) _ _ (by decide) (by decide)) (F_nilQ V8 _) (Nat.le_refl _) HQ8.out
    cases hm
    rw [setR_eq] at hI hB
    refine bodyPost_ret (results_cell_row rfl _ _ bR 37 #[.int .i64 fr, .int .i64 till, .slice A1 ms.length c1, .int .i64 1, .string ⟨#[]⟩, .string ⟨#[]⟩, .slice none 0 0, .bool desc, .int .i64 lim, .string ⟨#[]⟩] (0, 0) _ rfl ?_ Tryz.underlying37 rfl (by kernel_rfl)) rfl ?_
    ·exact setR_box HQ8.out.res _ _ _ _ _ _ _ _ _ _
    ·exact ⟨⟨fr, till, ms, ⟨1, ⟨#[]⟩, ⟨#[]⟩, []⟩, desc, lim⟩, A1, c1, none, 0, rfl, hI, hB⟩
   ·have d7 : (r7 == 0) = false := by simpa using h7
    clear h7
    have hb := HQ.out.q
    unfold qCells at hb
    have k0 : V7.cell? ⟨bQ, 0, none⟩ = some _ := (blk_cell hb 0).trans rfl
    have k1 : V7.cell? ⟨bQ, 1, none⟩ = some _ := (blk_cell hb 1).trans rfl
    have k2 : V7.cell? ⟨bQ, 2, none⟩ = some _ := (blk_cell hb 2).trans rfl
    have k3 : V7.cell? ⟨bQ, 3, none⟩ = some _ := (blk_cell hb 3).trans rfl
    have k4 : V7.cell? ⟨bQ, 4, none⟩ = some _ := (blk_cell hb 4).trans rfl
    have k5 : V7.cell? ⟨bQ, 5, none⟩ = some _ := (blk_cell hb 5).trans rfl
    have k6 : V7.cell? ⟨bQ, 6, none⟩ = some _ := (blk_cell hb 6).trans rfl
    have k7 : V7.cell? ⟨bQ, 7, none⟩ = some _ := (blk_cell hb 7).trans rfl
    have k8 : V7.cell? ⟨bQ, 8, none⟩ = some _ := (blk_cell hb 8).trans rfl
    have k9 : V7.cell? ⟨bQ, 9, none⟩ = some _ := (blk_cell hb 9).trans rfl
    clear hb
    have hr := HQ.out.res
    unfold qZero qCells at hr
    have m0 : V7.cell? ⟨bR, 0, none⟩ = some _ := (blk_cell hr 0).trans rfl
    have m1 : V7.cell? ⟨bR, 1, none⟩ = some _ := (blk_cell hr 1).trans rfl
    have m2 : V7.cell? ⟨bR, 2, none⟩ = some _ := (blk_cell hr 2).trans rfl
    have m3 : V7.cell? ⟨bR, 3, none⟩ = some _ := (blk_cell hr 3).trans rfl
    have m4 : V7.cell? ⟨bR, 4, none⟩ = some _ := (blk_cell hr 4).trans rfl
    have m5 : V7.cell? ⟨bR, 5, none⟩ = some _ := (blk_cell hr 5).trans rfl
    have m6 : V7.cell? ⟨bR, 6, none⟩ = some _ := (blk_cell hr 6).trans rfl
    have m7 : V7.cell? ⟨bR, 7, none⟩ = some _ := (blk_cell hr 7).trans rfl
    have m8 : V7.cell? ⟨bR, 8, none⟩ = some _ := (blk_cell hr 8).trans rfl
    have m9 : V7.cell? ⟨bR, 9, none⟩ = some _ := (blk_cell hr 9).trans rfl
    have f0 := blk_frozen hr 0
    have f1 := fun (u0 : Value) => blk_frozen (blk_set (hr) 0 u0) 1
    have f2 := fun (u0 : Value) (u1 : Value) => blk_frozen (blk_set (blk_set (hr) 0 u0) 1 u1) 2
    have f3 := fun (u0 : Value) (u1 : Value) (u2 : Value) => blk_frozen (blk_set (blk_set (blk_set (hr) 0 u0) 1 u1) 2 u2) 3
    have f4 := fun (u0 : Value) (u1 : Value) (u2 : Value) (u3 : Value) => blk_frozen (blk_set (blk_set (blk_set (blk_set (hr) 0 u0) 1 u1) 2 u2) 3 u3) 4
    have f5 := fun (u0 : Value) (u1 : Value) (u2 : Value) (u3 : Value) (u4 : Value) => blk_frozen (blk_set (blk_set (blk_set (blk_set (blk_set (hr) 0 u0) 1 u1) 2 u2) 3 u3) 4 u4) 5
    have f6 := fun (u0 : Value) (u1 : Value) (u2 : Value) (u3 : Value) (u4 : Value) (u5 : Value) => blk_frozen (blk_set (blk_set (blk_set (blk_set (blk_set (blk_set (hr) 0 u0) 1 u1) 2 u2) 3 u3) 4 u4) 5 u5) 6
    have f7 := fun (u0 : Value) (u1 : Value) (u2 : Value) (u3 : Value) (u4 : Value) (u5 : Value) (u6 : Value) => blk_frozen (blk_set (blk_set (blk_set (blk_set (blk_set (blk_set (blk_set (hr) 0 u0) 1 u1) 2 u2) 3 u3) 4 u4) 5 u5) 6 u6) 7
    have f8 := fun (u0 : Value) (u1 : Value) (u2 : Value) (u3 : Value) (u4 : Value) (u5 : Value) (u6 : Value) (u7 : Value) => blk_frozen (blk_set (blk_set (blk_set (blk_set (blk_set (blk_set (blk_set (blk_set (hr) 0 u0) 1 u1) 2 u2) 3 u3) 4 u4) 5 u5) 6 u6) 7 u7) 8
    have f9 := fun (u0 : Value) (u1 : Value) (u2 : Value) (u3 : Value) (u4 : Value) (u5 : Value) (u6 : Value) (u7 : Value) (u8 : Value) => blk_frozen (blk_set (blk_set (blk_set (blk_set (blk_set (blk_set (blk_set (blk_set (blk_set (hr) 0 u0) 1 u1) 2 u2) 3 u3) 4 u4) 5 u5) 6 u6) 7 u7) 8 u8) 9
    clear hr
    go_wp2_with fail
    obtain ⟨A1', c1', hm, hI, hB⟩ := Hfin.out T AT cT V7 Hok.out (Kd.F_mono (Kd.N_F HN.out) (fun k hk => by have := HlQ2.out.2.2.1; omega)) (Kd.N_reads' HN.out).2.1 HQ.out
    cases hm
    rw [setR_eq] at hI hB
    refine bodyPost_ret (results_cell_row rfl _ _ bR 37 #[.int .i64 fr, .int .i64 till, .slice A1 ms.length c1, .int .i64 T.f0, .string T.f1, .string T.f2, .slice AT T.f3.length cT, .bool desc, .int .i64 lim, .string ⟨#[]⟩] (0, 0) _ rfl ?_ Tryz.underlying37 rfl (by kernel_rfl)) rfl ?_
    ·exact setR_box HQ.out.res _ _ _ _ _ _ _ _ _ _
    ·exact ⟨⟨fr, till, ms, T, desc, lim⟩, A1, c1, AT, cT, rfl, hI, hB⟩
end Go.Proofs.YtpleiklodomgiaaGreatDoor.Q
end
