/- WordIs: the walk of the law. -/
import Derived.Test.YtfejjfbhlmjkeaaDoorP5
set_option linter.unusedVariables false
set_option linter.unusedSimpArgs false
namespace Go.Proofs.YtfejjfbhlmjkeaaDoor.W
open Go.RowKit Go.Proofs.YtfejjfbhlmjkeaaDoorW.PrintWords Go.Proofs.YtfejjfbhlmjkeaaDoorW.PrintLast Go.Proofs.YtfejjfbhlmjkeaaDoorW.PrintMore Go.Proofs.YtfejjfbhlmjkeaaDoor.B
/-- max and min, folded. -/
def mx (x y : Int) : Int := if x < y then y else x
def mn (x y : Int) : Int := if y < x then y else x
theorem max2_mx (k k' : IntKind) (x y : Int) : Builtin.max2 (.int k x) (.int k' y) = pure (.int k (mx x y)) := max2_int k k' x y
theorem min2_mn (k k' : IntKind) (x y : Int) : Builtin.min2 (.int k x) (.int k' y) = pure (.int k (mn x y)) := min2_int k k' x y
attribute [local go_sem] max2_mx min2_mn max_two min_two

theorem refInnerS (s : ByteArray) (w : World) (hs : s.size ≤ 1100) (hD : Dec w) : Calls Tryd.prog 14 #[.string s] w fun e w' => ∃ A c, e = .returned (.slice A (inner s).length c) ∧ Aside0 (ReadsS w' (.slice A (inner s).length c) (inner s)) ∧ Below w.heap.size w w' := by
  refine (refInner_any s w hs hD).mono ?_
  rintro e w' ⟨v, rfl, ho, hb⟩
  obtain ⟨A, c, rfl, h⟩ := readsS_own (xs := inner s) ho
  exact ⟨A, c, rfl, ⟨A, c, rfl, h⟩, hb⟩
theorem inner_few (s : ByteArray) : (inner s).length ≤ s.size := by
  have h1 := inner_count s
  have h2 := spans_count s s.size 0 none (by omega)
  simp only at h2
  omega
theorem goneS (s : ByteArray) (most : Int) (w : World) (hs : s.size ≤ 1100) (hm : (s.size : Int) ≤ most) : Calls Tryd.prog 16 #[.func (.func 44) #[] #[.pointer (some ⟨w.heap.size, 0, none⟩)], .int .i64 most] (w.alloc (.cells #[.string s] 9)) fun e w' => ∃ v, e = .returned v ∧ Aside0 (ReadsS w' v (words s)) ∧ Below w.heap.size w w' := by
  refine (goneAll s most w hs hm).mono ?_
  rintro e w' ⟨v, rfl, ho, hb⟩
  exact ⟨v, rfl, ⟨readsS_own ho.out⟩, hb⟩
theorem goneSI (s : ByteArray) (most : Int) (w : World) (hs : s.size ≤ 1100) (hm : (s.size : Int) ≤ most) : Calls Tryd.prog 16 #[.func (.func 46) #[] #[.pointer (some ⟨w.heap.size, 0, none⟩)], .int .i64 most] (w.alloc (.cells #[.string s] 9)) fun e w' => ∃ v, e = .returned v ∧ Aside0 (ReadsS w' v (inner s)) ∧ Below w.heap.size w w' := by
  have hc := inner_few s
  refine (goneI (s := s) (most := most) w (by omega) (by omega)).mono ?_
  rintro e w' ⟨v, rfl, ho, hb⟩
  rw [List.take_of_length_le (by omega)] at ho
  exact ⟨v, rfl, ⟨readsS_own (xs := inner s) ho⟩, hb⟩
theorem goneN (s : ByteArray) (most : Int) (w : World) (hs : s.size ≤ 1100) (k : Nat) (hk : k = ((words s).take most.toNat).length) : Calls Tryd.prog 16 #[.func (.func 44) #[] #[.pointer (some ⟨w.heap.size, 0, none⟩)], .int .i64 most] (w.alloc (.cells #[.string s] 9)) fun e w' => ∃ A c, e = .returned (.slice A k c) ∧ Below w.heap.size w w' := by
  have hc := words_count s
  refine (goneW (s := s) (most := most) w (by omega) (by omega)).mono ?_
  rintro e w' ⟨v, rfl, ho, hb⟩
  obtain ⟨A, c, rfl, _⟩ := own_news ho
  rw [List.length_map, ← hk]
  exact ⟨A, c, rfl, hb⟩
theorem goneNI (s : ByteArray) (most : Int) (w : World) (hs : s.size ≤ 1100) (k : Nat) (hk : k = ((inner s).take most.toNat).length) : Calls Tryd.prog 16 #[.func (.func 46) #[] #[.pointer (some ⟨w.heap.size, 0, none⟩)], .int .i64 most] (w.alloc (.cells #[.string s] 9)) fun e w' => ∃ A c, e = .returned (.slice A k c) ∧ Below w.heap.size w w' := by
  have hc := inner_few s
  refine (goneI (s := s) (most := most) w (by omega) (by omega)).mono ?_
  rintro e w' ⟨v, rfl, ho, hb⟩
  obtain ⟨A, c, rfl, _⟩ := own_news ho
  rw [List.length_map, ← hk]
  exact ⟨A, c, rfl, hb⟩
theorem taken_len (l : List ByteArray) (most : Int) (k : Nat) (hk : k = (l.take most.toNat).length) : (k : Int) = mn (mx most 0) (l.length : Int) := by
  rw [hk, List.length_take]
  unfold mn mx
  split <;> split <;> omega
set_option maxRecDepth 20000 in
set_option maxHeartbeats 4000000 in
theorem wordIs_all (s x0 : ByteArray) (most : Int) (W : World) (hD : Dec W) : Calls Tryd.prog 3 #[.string s, .string x0, .int .i64 most] W fun e w' => e = .returned (.bool true) ∧ Below W.heap.size W w' := by
  go_enter Tryd.func3, Tryd.ntmps3
  by_cases h1 : (1024 : Int) < (s.size : Int)
  · have d1 : decide ((1024 : Int) < (s.size : Int)) = true := decide_eq_true h1
    clear h1
    go_wp2_with (go_at_call 12; with_reducible refine (alive_any _).mono ?_; rintro e W1 ⟨rfl, hb1⟩; have HB1 := Aside0.mk hb1; clear hb1)
    go_ret
    exact ⟨rfl, HB1.out⟩
  have d1 : decide ((1024 : Int) < (s.size : Int)) = false := decide_eq_false h1
  by_cases h2 : (1024 : Int) < (x0.size : Int)
  · have d2 : decide ((1024 : Int) < (x0.size : Int)) = true := decide_eq_true h2
    clear h1 h2
    go_wp2_with (go_at_call 12; with_reducible refine (alive_any _).mono ?_; rintro e W1 ⟨rfl, hb1⟩; have HB1 := Aside0.mk hb1; clear hb1)
    go_ret
    exact ⟨rfl, HB1.out⟩
  have d2 : decide ((1024 : Int) < (x0.size : Int)) = false := decide_eq_false h2
  have hs : s.size ≤ 1100 := by omega
  obtain ⟨n1, hn1⟩ : ∃ n1, n1 = (words s).length := ⟨_, rfl⟩
  obtain ⟨n2, hn2⟩ : ∃ n2, n2 = (inner s).length := ⟨_, rfl⟩
  obtain ⟨k1, hk1⟩ : ∃ k1, k1 = ((words s).take most.toNat).length := ⟨_, rfl⟩
  obtain ⟨k2, hk2⟩ : ∃ k2, k2 = ((inner s).take most.toNat).length := ⟨_, rfl⟩
  have t1 := taken_len (words s) most k1 hk1
  have t2 := taken_len (inner s) most k2 hk2
  rw [← hn1] at t1
  rw [← hn2] at t2
  have q1 : ((k1 : Int) == mn (mx most 0) (n1 : Int)) = true := by rw [t1]; exact beq_self_eq_true _
  have q2 : ((k2 : Int) == mn (mx most 0) (n2 : Int)) = true := by rw [t2]; exact beq_self_eq_true _
  have HRW : Aside0 (∀ w, Below W.heap.size W w → Calls Tryd.prog 13 #[.string s] w fun e w' => ∃ A c, e = .returned (.slice A n1 c) ∧ Aside0 (ReadsS w' (.slice A n1 c) (words s)) ∧ Below w.heap.size w w') := ⟨fun w hb => by rw [hn1]; exact refWordsS s w hs (hD.below hb)⟩
  have HRI : Aside0 (∀ w, Below W.heap.size W w → Calls Tryd.prog 14 #[.string s] w fun e w' => ∃ A c, e = .returned (.slice A n2 c) ∧ Aside0 (ReadsS w' (.slice A n2 c) (inner s)) ∧ Below w.heap.size w w') := ⟨fun w hb => by rw [hn2]; exact refInnerS s w hs (hD.below hb)⟩
  have HG1 := Aside0.mk (fun w => goneS s 2000 w hs (by omega))
  have HG2 := Aside0.mk (fun w => goneSI s 2000 w hs (by omega))
  have HG3 := Aside0.mk (fun w => goneN s most w hs k1 hk1)
  have HG4 := Aside0.mk (fun w => goneNI s most w hs k2 hk2)
  have HH := Aside0.mk (fun w => has_any s x0 w (by omega))
  have HRH : Aside0 (∀ w, Below W.heap.size W w → _) := ⟨fun w hb => refHas_any s x0 w hs (hD.below hb)⟩
  have HI := Aside0.mk (fun w => is_any s w (by omega))
  have HRS : Aside0 (∀ w, Below W.heap.size W w → _) := ⟨fun w hb => refIs_any s w hs (hD.below hb)⟩
  have Hc1 : Aside0 ((words s).length ≤ 4611686018427) := ⟨by have := words_count s; omega⟩
  have Hc2 : Aside0 ((inner s).length ≤ 4611686018427) := ⟨by have := inner_few s; omega⟩
  clear h1 h2 hs hn1 hn2 hk1 hk2 t1 t2 hD
  go_wp2_with (first
    | (go_at_call 12; with_reducible refine (alive_any _).mono ?_; rintro e W1 ⟨rfl, hb1⟩; have HB1 := Aside0.mk hb1; clear hb1)
    | (go_at_call 13; with_reducible refine (HRW.out _ HB1.out).mono ?_; rintro e W2 ⟨A1, c1, rfl, HR2, hb2⟩; have HB2 := Aside0.mk (below_step HB1.out hb2); clear hb2)
    | (go_at_call 14; with_reducible refine (HRI.out _ HB2.out).mono ?_; rintro e W3 ⟨A2, c2, rfl, HI3, hb3⟩; have HB3 := Aside0.mk (below_step HB2.out hb3); have HR3 := Aside0.mk (HR2.out.below hb3); clear hb3)
    | (go_at_call 17; with_reducible refine (words_any _ _).mono ?_; rintro e w1 ⟨rfl, rfl⟩)
    | (go_at_call 18; with_reducible refine (inner_any _ _).mono ?_; rintro e w1 ⟨rfl, rfl⟩)
    | (go_at_call 16; with_reducible refine (HG1.out _).mono ?_; rintro e W4 ⟨v4, rfl, HV4, hb4⟩; have HB4 := Aside0.mk (below_step HB3.out hb4); have HR4 := Aside0.mk (HR3.out.below hb4); have HI4 := Aside0.mk (HI3.out.below hb4); clear hb4)
    | (go_at_call 16; with_reducible refine (HG2.out _).mono ?_; rintro e W6 ⟨v6, rfl, HV6, hb6⟩; have HB6 := Aside0.mk (below_step HB5.out hb6); have HI6 := Aside0.mk (HI5.out.below hb6); clear hb6)
    | (go_at_call 16; with_reducible refine (HG3.out _).mono ?_; rintro e W8 ⟨A8, c8, rfl, hb8⟩; have HB8 := Aside0.mk (below_step HB7.out hb8); clear hb8)
    | (go_at_call 16; with_reducible refine (HG4.out _).mono ?_; rintro e W9 ⟨A9, c9, rfl, hb9⟩; have HB9 := Aside0.mk (below_step HB8.out hb9); clear hb9)
    | (go_at_call 15; with_reducible refine (sameAll _ _ _ rfl HV4.out HR4.out Hc1.out).mono ?_; rintro e W5 ⟨rfl, hb5⟩; have HB5 := Aside0.mk (below_step HB4.out hb5); have HI5 := Aside0.mk (HI4.out.below hb5); clear hb5)
    | (go_at_call 15; with_reducible refine (sameAll _ _ _ rfl HV6.out HI6.out Hc2.out).mono ?_; rintro e W7 ⟨rfl, hb7⟩; have HB7 := Aside0.mk (below_step HB6.out hb7); clear hb7)
    | (go_at_call 19; with_reducible refine (HH.out _).mono ?_; rintro e W10 ⟨rfl, hb10⟩; have HB10 := Aside0.mk (below_step HB9.out hb10); clear hb10)
    | (go_at_call 20; with_reducible refine (HRH.out _ HB10.out).mono ?_; rintro e W11 ⟨rfl, hb11⟩; have HB11 := Aside0.mk (below_step HB10.out hb11); clear hb11)
    | (go_at_call 21; with_reducible refine (HI.out _).mono ?_; rintro e W12 ⟨rfl, hb12⟩; have HB12 := Aside0.mk (below_step HB11.out hb12); clear hb12)
    | (go_at_call 22; with_reducible refine (HRS.out _ HB12.out).mono ?_; rintro e W13 ⟨rfl, hb13⟩; have HB13 := Aside0.mk (below_step HB12.out hb13); clear hb13))
  go_ret
  exact ⟨by simp, HB13.out⟩
end Go.Proofs.YtfejjfbhlmjkeaaDoor.W
