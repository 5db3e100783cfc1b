/- Texts of this claim (printed ones, too), put together by a program that left out what the claim does not use. -/
import Derived.Test.YtfejjfbhlmjkeaaRecordSorts7
section
namespace Go.Proofs.Ytfejjfbhlmjkeaa.PRecordIs
open Go.RowKit Go.Proofs.YtfejjfbhlmjkeaaW.PrintWords Go.Proofs.YtfejjfbhlmjkeaaW.PrintLast Go.Proofs.YtfejjfbhlmjkeaaW.PrintMore
attribute [local go_sem] max2_int min2_int max_two min_two max_three min_three max_four min_four   -- for this text's walks alone
set_option linter.unusedVariables false
set_option linter.unusedSimpArgs false
mutual
def magpieref04_Great.j0 : Nat → Bool → Int → List (S47) → ByteArray → Option (Bool)
  | 0, _, _, _, _ => none
  | k + 1, x14, x170000, x170001, x170002 => if x14 = true then (some true) else (magpieref04_Great.l0 k x170001 (x170001.length : Int) 0)
def magpieref04_Great.l0 : Nat → List (S47) → Int → Int → Option (Bool)
  | 0, _, _, _ => none
  | k + 1, x16, x17, x18 => if x18 < x17 then (if 0 ≤ x18 then (if x18 < (x16.length : Int) then (if (((rd_T47 x16 x18).f0).size : Int) > 200 then (some true) else (if (((rd_T47 x16 x18).f1).size : Int) > 200 then (some true) else (magpieref04_Great.l0 k x16 x17 (wrap64 (x18 + 1))))) else (none)) else (none)) else (some false)
end
def magpieref04_Great.f (k : Nat) (a0_0 : Int) (l0_1 : List (S47)) (a0_2 : ByteArray) : Option (Bool) := if (l0_1.length : Int) > 20 then (magpieref04_Great.j0 k true a0_0 l0_1 a0_2) else (magpieref04_Great.j0 k (decide ((a0_2.size : Int) > 1000)) a0_0 l0_1 a0_2)
theorem magpieref04_Great.mono_l : ∀ k, (∀ y0 y1 y2 y3, LeO (magpieref04_Great.j0 k y0 y1 y2 y3) (magpieref04_Great.j0 (k + 1) y0 y1 y2 y3)) ∧ (∀ y0 y1 y2, LeO (magpieref04_Great.l0 k y0 y1 y2) (magpieref04_Great.l0 (k + 1) y0 y1 y2))
  | 0 => ⟨fun _ _ _ _ r h => by simp [magpieref04_Great.j0] at h, fun _ _ _ r h => by simp [magpieref04_Great.l0] at h⟩
  | k + 1 => by
    obtain ⟨ih0, ih1⟩ := magpieref04_Great.mono_l k
    refine ⟨?_, ?_⟩
    · intro y0 y1 y2 y3
      unfold magpieref04_Great.j0
      repeat' first
      | (with_reducible exact ih0 _ _ _ _)
      | (with_reducible exact ih1 _ _ _)
      | (with_reducible exact LeO.refl _)
      | (with_reducible exact LeO.none _)
      | (with_reducible refine LeO.ite ?_ ?_)
      | (with_reducible refine LeO.bind ?_ (fun _ => ?_))
      | exact ih0 _ _ _ _
      | exact ih1 _ _ _
      | exact LeO.none _
      | refine LeO.ite ?_ ?_
      | refine LeO.bind ?_ (fun _ => ?_)
    · intro y0 y1 y2
      unfold magpieref04_Great.l0
      repeat' first
      | (with_reducible exact ih0 _ _ _ _)
      | (with_reducible exact ih1 _ _ _)
      | (with_reducible exact LeO.refl _)
      | (with_reducible exact LeO.none _)
      | (with_reducible refine LeO.ite ?_ ?_)
      | (with_reducible refine LeO.bind ?_ (fun _ => ?_))
      | exact ih0 _ _ _ _
      | exact ih1 _ _ _
      | exact LeO.none _
      | refine LeO.ite ?_ ?_
      | refine LeO.bind ?_ (fun _ => ?_)
theorem magpieref04_Great.mono : ∀ a0 a1 a2 k, LeO (magpieref04_Great.f k a0 a1 a2) (magpieref04_Great.f (k + 1) a0 a1 a2) := by
  intro a0 a1 a2 k
  obtain ⟨ih0, ih1⟩ := magpieref04_Great.mono_l k
  unfold magpieref04_Great.f
  repeat' first
      | (with_reducible exact ih0 _ _ _ _)
      | (with_reducible exact ih1 _ _ _)
      | (with_reducible exact LeO.refl _)
      | (with_reducible exact LeO.none _)
      | (with_reducible refine LeO.ite ?_ ?_)
      | (with_reducible refine LeO.bind ?_ (fun _ => ?_))
      | exact ih0 _ _ _ _
      | exact ih1 _ _ _
      | exact LeO.none _
      | refine LeO.ite ?_ ?_
      | refine LeO.bind ?_ (fun _ => ?_)
set_option maxHeartbeats 8000000 in
set_option maxRecDepth 100000 in
theorem magpieref04_Great.calls (k : Nat) (a0_0 : Int) (A0_1 : Option Addr) (c0_1 : Nat) (l0_1 : List (S47)) (a0_2 : ByteArray) (r : Bool) (w : World) (hr0_1 : Kd.C k47 w A0_1 l0_1.length l0_1) (hc0_1 : l0_1.length ≤ c0_1) (h : magpieref04_Great.f k a0_0 l0_1 a0_2 = some r) :
    Calls Try.prog 20 #[.agg #[.int .i64 a0_0, .slice A0_1 l0_1.length c0_1, .string a0_2]] w fun e w' => e = .returned (.bool r) ∧ Below w.heap.size w w' := by
  have hu34 := Try.underlying34
  have hu47 := Try.underlying47
  have HR0_1 := Aside0.mk hr0_1
  have HC0_1 := Aside0.mk hc0_1
  clear hr0_1 hc0_1
  have HB := Aside0.mk (Below.refl w.heap.size w)
  have H : (if (l0_1.length : Int) > 20 then (magpieref04_Great.j0 k true a0_0 l0_1 a0_2) else (magpieref04_Great.j0 k (decide ((a0_2.size : Int) > 1000)) a0_0 l0_1 a0_2)) = some r := h
  clear h
  have HC2 := Aside0.mk H
  clear H
  go_enter Try.func20, Try.ntmps20
  go_upto_region 1 with (first | ((with_reducible refine gate_dst (N := 1) rfl ?_); (try (refine gate_guard (by rfl) ?_; dsimp only)); refine box_event ?hg (N := 1) ?hd (cs := #[.int .i64 a0_0, .slice A0_1 l0_1.length c0_1, .string a0_2]) (t := 34) ?hr ?_; (case hd => rfl); (case hg => rfl); (case hr => first | (go_simp; done) | (go_simp; rfl)); intro gb169 hg w3 hbox hb; have n0_ := Aside0.mk (below_step (by repeat (first | (with_reducible first | exact HB.out | apply below_alloc | apply pw_below_drewN | apply below_drew1) | exact HB.out)) hb); have n1_ := Aside0.mk (hbox); have n2_ := Aside0.mk ((by rw [hg]; exact (below_size (by repeat (first | (with_reducible first | exact HB.out | apply below_alloc | apply pw_below_drewN | apply below_drew1) | exact HB.out))) : w.heap.size ≤ gb169)); have n3_ := Aside0.mk ((by rw [hg]; exact (below_size (by repeat (first | (with_reducible first | exact HB.out | apply below_alloc | apply pw_below_drewN | apply below_drew1) | exact HB.out))) : w.heap.size ≤ gb169)); clear HB; have HB := n0_; have BK169 := n1_; have GW169 := n2_; have GE169 := n3_; clear n0_ n1_ n2_ n3_; clear hb hbox hg))
  (try simp only [Act.put, List.setIfInBounds_toArray, List.set_cons_zero, List.set_cons_succ])
  go_cut [14] (fun v14 wc => ∃ (kq : Nat) (x14_1 : Bool), v14 = .bool x14_1 ∧ Aside0 (magpieref04_Great.j0 kq x14_1 a0_0 l0_1 a0_2 = some r) ∧ Aside0 (kq ≤ k) ∧ Aside0 (wc.heap[gb169]? = some (.cells #[.int .i64 a0_0, (.slice A0_1 l0_1.length c0_1), .string a0_2] 34 (0, 0))) ∧ Aside0 (Below w.heap.size w wc))
  case first =>
    have H := HC2.out
    clear HC2
    by_cases c4 : (l0_1.length : Int) > 20
    · rw [if_pos c4] at H
      have c4b0 : decide (20 < (l0_1.length : Int)) = true := decide_eq_true c4
      have c4b1 : decide (20 < l0_1.length) = true := decide_eq_true (by omega)
      clear c4
      (first | rw [c4b0] | (simp only [i64_w, i32_w]; rw [c4b0]) | skip)
      have H' := Aside0.mk H
      clear H
      have hcz5_0 : w3.cell? ⟨gb169, 0, none⟩ = some (.int .i64 a0_0) := (blk_cell BK169.out 0).trans rfl
      have hcz5_1 : w3.cell? ⟨gb169, 1, none⟩ = some (.slice A0_1 l0_1.length c0_1) := (blk_cell BK169.out 1).trans rfl
      have hcz5_2 : w3.cell? ⟨gb169, 2, none⟩ = some (.string a0_2) := (blk_cell BK169.out 2).trans rfl
      have hfz5_0 := blk_frozen BK169.out 0
      have hfz5_1 := blk_frozen BK169.out 1
      have hfz5_2 := blk_frozen BK169.out 2
      go_wp2
      go_meet
      case rel => exact ⟨_, (true), (by first | rfl | (simp; done) | (simp [*]; done)), H', ⟨by first | omega | exact Nat.le_refl _⟩, ⟨by (with_reducible repeat (first | refine blk_drewN ?_ _ | refine blk_drew ?_ | refine blk_alloc ?_ _)); exact BK169.out⟩, ⟨by repeat (first | (with_reducible first | exact HB.out | apply below_alloc | apply pw_below_drewN | apply below_drew1 | refine below_set ?_ GE169.out) | exact HB.out)⟩⟩
    · rw [if_neg c4] at H
      have c4b0 : decide (20 < (l0_1.length : Int)) = false := decide_eq_false c4
      have c4b1 : decide (20 < l0_1.length) = false := decide_eq_false (by omega)
      clear c4
      (first | rw [c4b0] | (simp only [i64_w, i32_w]; rw [c4b0]) | skip)
      have H' := Aside0.mk H
      clear H
      have hcz6_0 : w3.cell? ⟨gb169, 0, none⟩ = some (.int .i64 a0_0) := (blk_cell BK169.out 0).trans rfl
      have hcz6_1 : w3.cell? ⟨gb169, 1, none⟩ = some (.slice A0_1 l0_1.length c0_1) := (blk_cell BK169.out 1).trans rfl
      have hcz6_2 : w3.cell? ⟨gb169, 2, none⟩ = some (.string a0_2) := (blk_cell BK169.out 2).trans rfl
      have hfz6_0 := blk_frozen BK169.out 0
      have hfz6_1 := blk_frozen BK169.out 1
      have hfz6_2 := blk_frozen BK169.out 2
      go_wp2
      go_meet
      case rel => exact ⟨_, (decide ((a0_2.size : Int) > 1000)), (by first | rfl | (simp; done) | (simp [*]; done)), H', ⟨by first | omega | exact Nat.le_refl _⟩, ⟨by (with_reducible repeat (first | refine blk_drewN ?_ _ | refine blk_drew ?_ | refine blk_alloc ?_ _)); exact BK169.out⟩, ⟨by repeat (first | (with_reducible first | exact HB.out | apply below_alloc | apply pw_below_drewN | apply below_drew1 | refine below_set ?_ GE169.out) | exact HB.out)⟩⟩
  case rest =>
    clear HC2
    try clear c2
    try clear p2
    try clear c4
    try clear c4b0
    try clear c4b1
    try clear hcz5_0
    try clear hcz5_1
    try clear hcz5_2
    try clear hcz6_0
    try clear hcz6_1
    try clear hcz6_2
    try clear hfz5_0
    try clear hfz5_1
    try clear hfz5_2
    try clear hfz6_0
    try clear hfz6_1
    try clear hfz6_2
    obtain ⟨kq, x14_1, rfl, HA, HJ1, BK169, HB⟩ := hcut
    cases kq with
    | zero => exact absurd HA.out (by simp [magpieref04_Great.j0])
    | succ kj1 =>
      have H := HA.out
      clear HA
      simp only [magpieref04_Great.j0] at H
      by_cases c7 : x14_1 = true
      · subst c7
        have H1 : (some true) = some r := by rw [if_pos rfl] at H; exact H
        clear H
        have H := H1
        clear H1
        obtain rfl := Option.some.inj H
        go_wp2
        go_ret
        exact ⟨by first | rfl | (simp [errW_none, errW_some] <;> rfl) | (simp [*, errW_none, errW_some] <;> rfl), by repeat (first | (with_reducible first | exact HB.out | apply below_alloc | apply pw_below_drewN | apply below_drew1 | refine below_set ?_ GE169.out) | exact HB.out)⟩
      · replace c7 := Bool.eq_false_iff.mpr c7
        subst c7
        have H1 : (magpieref04_Great.l0 kj1 l0_1 (l0_1.length : Int) 0) = some r := by rw [if_neg (show ¬ (false = true) by decide)] at H; exact H
        clear H
        have H := H1
        clear H1
        have H' := Aside0.mk H
        clear H
        have hcz8_0 : wc.cell? ⟨gb169, 0, none⟩ = some (.int .i64 a0_0) := (blk_cell BK169.out 0).trans rfl
        have hcz8_1 : wc.cell? ⟨gb169, 1, none⟩ = some (.slice A0_1 l0_1.length c0_1) := (blk_cell BK169.out 1).trans rfl
        have hcz8_2 : wc.cell? ⟨gb169, 2, none⟩ = some (.string a0_2) := (blk_cell BK169.out 2).trans rfl
        have hfz8_0 := blk_frozen BK169.out 0
        have hfz8_1 := blk_frozen BK169.out 1
        have hfz8_2 := blk_frozen BK169.out 2
        go_wp2
        go_loopg [18] kj1 (fun kq v18 w' => ∃ (x18_2 : Int), v18 = .int .i64 x18_2 ∧ Aside0 (magpieref04_Great.l0 kq l0_1 (l0_1.length : Int) x18_2 = some r) ∧ Aside0 (kq ≤ kj1) ∧ Aside0 (w'.heap[gb169]? = some (.cells #[.int .i64 a0_0, (.slice A0_1 l0_1.length c0_1), .string a0_2] 34 (0, 0))) ∧ Aside0 (Below w.heap.size w w'))
        case atStart => exact ⟨(0), (by first | rfl | (simp; done) | (simp [*]; done)), H', ⟨Nat.le_refl _⟩, ⟨by (with_reducible repeat (first | refine blk_drewN ?_ _ | refine blk_drew ?_ | refine blk_alloc ?_ _)); exact BK169.out⟩, ⟨by repeat (first | (with_reducible first | exact HB.out | apply below_alloc | apply pw_below_drewN | apply below_drew1 | refine below_set ?_ GE169.out) | exact HB.out)⟩⟩
        case round =>
          clear H'
          try clear c2
          try clear p2
          try clear c4
          try clear c4b0
          try clear c4b1
          try clear c7
          try clear hcz5_0
          try clear hcz5_1
          try clear hcz5_2
          try clear hcz6_0
          try clear hcz6_1
          try clear hcz6_2
          try clear hcz8_0
          try clear hcz8_1
          try clear hcz8_2
          try clear hfz5_0
          try clear hfz5_1
          try clear hfz5_2
          try clear hfz6_0
          try clear hfz6_1
          try clear hfz6_2
          try clear hfz8_0
          try clear hfz8_1
          try clear hfz8_2
          try clear p2
          obtain ⟨x18_2, rfl, HA, HK2, BK169, HB⟩ := hrel
          cases gk with
          | zero => exact absurd HA.out (by simp [magpieref04_Great.l0])
          | succ k2 =>
            have H := HA.out
            clear HA
            simp only [magpieref04_Great.l0] at H
            by_cases c9 : x18_2 < (l0_1.length : Int)
            · rw [if_pos c9] at H
              have c9b0 : decide (x18_2 < (l0_1.length : Int)) = true := decide_eq_true c9
              clear c9
              by_cases c10 : 0 ≤ x18_2
              · rw [if_pos c10] at H
                have c10b0 : decide (0 ≤ x18_2) = true := decide_eq_true c10
                clear c10
                by_cases c11 : x18_2 < (l0_1.length : Int)
                · rw [if_pos c11] at H
                  have c11b0 : decide (x18_2 < (l0_1.length : Int)) = true := decide_eq_true c11
                  clear c11
                  by_cases c12 : (((rd_T47 l0_1 x18_2).f0).size : Int) > 200
                  · rw [if_pos c12] at H
                    have c12b0 : decide (200 < (((rd_T47 l0_1 x18_2).f0).size : Int)) = true := decide_eq_true c12
                    have c12b1 : decide (200 < ((rd_T47 l0_1 x18_2).f0).size) = true := decide_eq_true (by omega)
                    clear c12
                    obtain rfl := Option.some.inj H
                    have p170 : 0 ≤ (x18_2 : Int) := of_decide_eq_true (by first | (with_reducible assumption) | assumption)
                    have q170 : x18_2 < (l0_1.length : Int) := of_decide_eq_true (by first | (with_reducible assumption) | assumption)
                    obtain ⟨ad170, e170, hx170_0, hx170_1⟩ := at_T47 HR0_1.out x18_2 p170 q170
                    cases e170
                    replace hx170_0 := (HB.out.cell (World.block_lt_of_cell? w _ hx170_0)).trans hx170_0
                    replace hx170_1 := (HB.out.cell (World.block_lt_of_cell? w _ hx170_1)).trans hx170_1
                    replace p170 := eq_true p170
                    replace q170 := eq_true q170
                    go_wp2_with (first | ((with_reducible refine gate_dst (N := 4) rfl ?_); (try (refine gate_guard (by rfl) ?_; dsimp only)); refine box_event ?hg (N := 4) ?hd (cs := #[.string (⟨#[]⟩ : ByteArray), .string (⟨#[]⟩ : ByteArray)]) (t := 47) ?hr ?_; (case hd => rfl); (case hg => rfl); (case hr => first | (go_simp; done) | (go_simp; rfl)); intro gb171 hg w13 hbox hb; have n0_ := Aside0.mk (blk_below (g := gb169) (o := .cells #[.int .i64 a0_0, .slice (some ad170) l0_1.length c0_1, .string a0_2] 34 (0, 0)) (by (with_reducible repeat (first | refine blk_drewN ?_ _ | refine blk_drew ?_ | refine blk_alloc ?_ _)); exact BK169.out) hb); have n1_ := Aside0.mk (below_step (by repeat (first | (with_reducible first | exact HB.out | apply below_alloc | apply pw_below_drewN | apply below_drew1 | refine below_set ?_ GE169.out) | exact HB.out)) hb); have n2_ := Aside0.mk (hbox); have n3_ := Aside0.mk ((by rw [hg]; exact (below_size (by repeat (first | (with_reducible first | exact HB.out | apply below_alloc | apply pw_below_drewN | apply below_drew1 | refine below_set ?_ GE169.out) | exact HB.out))) : w.heap.size ≤ gb171)); have n4_ := Aside0.mk ((by rw [hg]; exact (below_size (by repeat (first | (with_reducible first | exact HB.out | apply below_alloc | apply pw_below_drewN | apply below_drew1 | refine below_set ?_ GE169.out) | exact HB.out))) : w.heap.size ≤ gb171)); have n5_ := Aside0.mk ((by rw [hg]; exact Nat.ne_of_lt (blk_lt (g := gb169) (o := .cells #[.int .i64 a0_0, .slice (some ad170) l0_1.length c0_1, .string a0_2] 34 (0, 0)) (by (with_reducible repeat (first | refine blk_drewN ?_ _ | refine blk_drew ?_ | refine blk_alloc ?_ _)); exact BK169.out)) : gb169 ≠ gb171)); have n6_ := Aside0.mk ((by rw [hg]; exact Nat.ne_of_gt (blk_lt (g := gb169) (o := .cells #[.int .i64 a0_0, .slice (some ad170) l0_1.length c0_1, .string a0_2] 34 (0, 0)) (by (with_reducible repeat (first | refine blk_drewN ?_ _ | refine blk_drew ?_ | refine blk_alloc ?_ _)); exact BK169.out)) : gb171 ≠ gb169)); clear BK169; clear HB; have BK169 := n0_; have HB := n1_; have BK171 := n2_; have GW171 := n3_; have GE171 := n4_; have NB169_171 := n5_; have NB171_169 := n6_; clear n0_ n1_ n2_ n3_ n4_ n5_ n6_; clear hb hbox hg; have hnb14 := NB171_169.out; have hnc14 := NB169_171.out; have hcz15_0 : w13.cell? ⟨gb171, 0, none⟩ = some (.string (⟨#[]⟩ : ByteArray)) := (blk_cell BK171.out 0).trans rfl; have hcz15_1 : w13.cell? ⟨gb171, 1, none⟩ = some (.string (⟨#[]⟩ : ByteArray)) := (blk_cell BK171.out 1).trans rfl; have hfz15_0 := blk_frozen BK171.out 0; have hfz15_1 := blk_frozen BK171.out 1))
                    go_ret
                    exact ⟨by first | rfl | (simp [errW_none, errW_some] <;> rfl) | (simp [*, errW_none, errW_some] <;> rfl), by repeat (first | (with_reducible first | exact HB.out | apply below_alloc | apply pw_below_drewN | apply below_drew1 | refine below_set ?_ GE169.out | refine below_set ?_ GE171.out) | exact HB.out)⟩
                  · rw [if_neg c12] at H
                    have c12b0 : decide (200 < (((rd_T47 l0_1 x18_2).f0).size : Int)) = false := decide_eq_false c12
                    have c12b1 : decide (200 < ((rd_T47 l0_1 x18_2).f0).size) = false := decide_eq_false (by omega)
                    clear c12
                    by_cases c16 : (((rd_T47 l0_1 x18_2).f1).size : Int) > 200
                    · rw [if_pos c16] at H
                      have c16b0 : decide (200 < (((rd_T47 l0_1 x18_2).f1).size : Int)) = true := decide_eq_true c16
                      have c16b1 : decide (200 < ((rd_T47 l0_1 x18_2).f1).size) = true := decide_eq_true (by omega)
                      clear c16
                      obtain rfl := Option.some.inj H
                      have p170 : 0 ≤ (x18_2 : Int) := of_decide_eq_true (by first | (with_reducible assumption) | assumption)
                      have q170 : x18_2 < (l0_1.length : Int) := of_decide_eq_true (by first | (with_reducible assumption) | assumption)
                      obtain ⟨ad170, e170, hx170_0, hx170_1⟩ := at_T47 HR0_1.out x18_2 p170 q170
                      cases e170
                      replace hx170_0 := (HB.out.cell (World.block_lt_of_cell? w _ hx170_0)).trans hx170_0
                      replace hx170_1 := (HB.out.cell (World.block_lt_of_cell? w _ hx170_1)).trans hx170_1
                      replace p170 := eq_true p170
                      replace q170 := eq_true q170
                      go_wp2_with (first | ((with_reducible refine gate_dst (N := 4) rfl ?_); (try (refine gate_guard (by rfl) ?_; dsimp only)); refine box_event ?hg (N := 4) ?hd (cs := #[.string (⟨#[]⟩ : ByteArray), .string (⟨#[]⟩ : ByteArray)]) (t := 47) ?hr ?_; (case hd => rfl); (case hg => rfl); (case hr => first | (go_simp; done) | (go_simp; rfl)); intro gb171 hg w17 hbox hb; have n0_ := Aside0.mk (blk_below (g := gb169) (o := .cells #[.int .i64 a0_0, .slice (some ad170) l0_1.length c0_1, .string a0_2] 34 (0, 0)) (by (with_reducible repeat (first | refine blk_drewN ?_ _ | refine blk_drew ?_ | refine blk_alloc ?_ _)); exact BK169.out) hb); have n1_ := Aside0.mk (below_step (by repeat (first | (with_reducible first | exact HB.out | apply below_alloc | apply pw_below_drewN | apply below_drew1 | refine below_set ?_ GE169.out) | exact HB.out)) hb); have n2_ := Aside0.mk (hbox); have n3_ := Aside0.mk ((by rw [hg]; exact (below_size (by repeat (first | (with_reducible first | exact HB.out | apply below_alloc | apply pw_below_drewN | apply below_drew1 | refine below_set ?_ GE169.out) | exact HB.out))) : w.heap.size ≤ gb171)); have n4_ := Aside0.mk ((by rw [hg]; exact (below_size (by repeat (first | (with_reducible first | exact HB.out | apply below_alloc | apply pw_below_drewN | apply below_drew1 | refine below_set ?_ GE169.out) | exact HB.out))) : w.heap.size ≤ gb171)); have n5_ := Aside0.mk ((by rw [hg]; exact Nat.ne_of_lt (blk_lt (g := gb169) (o := .cells #[.int .i64 a0_0, .slice (some ad170) l0_1.length c0_1, .string a0_2] 34 (0, 0)) (by (with_reducible repeat (first | refine blk_drewN ?_ _ | refine blk_drew ?_ | refine blk_alloc ?_ _)); exact BK169.out)) : gb169 ≠ gb171)); have n6_ := Aside0.mk ((by rw [hg]; exact Nat.ne_of_gt (blk_lt (g := gb169) (o := .cells #[.int .i64 a0_0, .slice (some ad170) l0_1.length c0_1, .string a0_2] 34 (0, 0)) (by (with_reducible repeat (first | refine blk_drewN ?_ _ | refine blk_drew ?_ | refine blk_alloc ?_ _)); exact BK169.out)) : gb171 ≠ gb169)); clear BK169; clear HB; have BK169 := n0_; have HB := n1_; have BK171 := n2_; have GW171 := n3_; have GE171 := n4_; have NB169_171 := n5_; have NB171_169 := n6_; clear n0_ n1_ n2_ n3_ n4_ n5_ n6_; clear hb hbox hg; have hnb18 := NB171_169.out; have hnc18 := NB169_171.out; have hcz19_0 : w17.cell? ⟨gb171, 0, none⟩ = some (.string (⟨#[]⟩ : ByteArray)) := (blk_cell BK171.out 0).trans rfl; have hcz19_1 : w17.cell? ⟨gb171, 1, none⟩ = some (.string (⟨#[]⟩ : ByteArray)) := (blk_cell BK171.out 1).trans rfl; have hfz19_0 := blk_frozen BK171.out 0; have hfz19_1 := blk_frozen BK171.out 1))
                      go_ret
                      exact ⟨by first | rfl | (simp [errW_none, errW_some] <;> rfl) | (simp [*, errW_none, errW_some] <;> rfl), by repeat (first | (with_reducible first | exact HB.out | apply below_alloc | apply pw_below_drewN | apply below_drew1 | refine below_set ?_ GE169.out | refine below_set ?_ GE171.out) | exact HB.out)⟩
                    · rw [if_neg c16] at H
                      have c16b0 : decide (200 < (((rd_T47 l0_1 x18_2).f1).size : Int)) = false := decide_eq_false c16
                      have c16b1 : decide (200 < ((rd_T47 l0_1 x18_2).f1).size) = false := decide_eq_false (by omega)
                      clear c16
                      have H' := Aside0.mk H
                      clear H
                      have p170 : 0 ≤ (x18_2 : Int) := of_decide_eq_true (by first | (with_reducible assumption) | assumption)
                      have q170 : x18_2 < (l0_1.length : Int) := of_decide_eq_true (by first | (with_reducible assumption) | assumption)
                      obtain ⟨ad170, e170, hx170_0, hx170_1⟩ := at_T47 HR0_1.out x18_2 p170 q170
                      cases e170
                      replace hx170_0 := (HB.out.cell (World.block_lt_of_cell? w _ hx170_0)).trans hx170_0
                      replace hx170_1 := (HB.out.cell (World.block_lt_of_cell? w _ hx170_1)).trans hx170_1
                      replace p170 := eq_true p170
                      replace q170 := eq_true q170
                      go_wp2_with (first | ((with_reducible refine gate_dst (N := 4) rfl ?_); (try (refine gate_guard (by rfl) ?_; dsimp only)); refine box_event ?hg (N := 4) ?hd (cs := #[.string (⟨#[]⟩ : ByteArray), .string (⟨#[]⟩ : ByteArray)]) (t := 47) ?hr ?_; (case hd => rfl); (case hg => rfl); (case hr => first | (go_simp; done) | (go_simp; rfl)); intro gb171 hg w20 hbox hb; have n0_ := Aside0.mk (blk_below (g := gb169) (o := .cells #[.int .i64 a0_0, .slice (some ad170) l0_1.length c0_1, .string a0_2] 34 (0, 0)) (by (with_reducible repeat (first | refine blk_drewN ?_ _ | refine blk_drew ?_ | refine blk_alloc ?_ _)); exact BK169.out) hb); have n1_ := Aside0.mk (below_step (by repeat (first | (with_reducible first | exact HB.out | apply below_alloc | apply pw_below_drewN | apply below_drew1 | refine below_set ?_ GE169.out) | exact HB.out)) hb); have n2_ := Aside0.mk (hbox); have n3_ := Aside0.mk ((by rw [hg]; exact (below_size (by repeat (first | (with_reducible first | exact HB.out | apply below_alloc | apply pw_below_drewN | apply below_drew1 | refine below_set ?_ GE169.out) | exact HB.out))) : w.heap.size ≤ gb171)); have n4_ := Aside0.mk ((by rw [hg]; exact (below_size (by repeat (first | (with_reducible first | exact HB.out | apply below_alloc | apply pw_below_drewN | apply below_drew1 | refine below_set ?_ GE169.out) | exact HB.out))) : w.heap.size ≤ gb171)); have n5_ := Aside0.mk ((by rw [hg]; exact Nat.ne_of_lt (blk_lt (g := gb169) (o := .cells #[.int .i64 a0_0, .slice (some ad170) l0_1.length c0_1, .string a0_2] 34 (0, 0)) (by (with_reducible repeat (first | refine blk_drewN ?_ _ | refine blk_drew ?_ | refine blk_alloc ?_ _)); exact BK169.out)) : gb169 ≠ gb171)); have n6_ := Aside0.mk ((by rw [hg]; exact Nat.ne_of_gt (blk_lt (g := gb169) (o := .cells #[.int .i64 a0_0, .slice (some ad170) l0_1.length c0_1, .string a0_2] 34 (0, 0)) (by (with_reducible repeat (first | refine blk_drewN ?_ _ | refine blk_drew ?_ | refine blk_alloc ?_ _)); exact BK169.out)) : gb171 ≠ gb169)); clear BK169; clear HB; have BK169 := n0_; have HB := n1_; have BK171 := n2_; have GW171 := n3_; have GE171 := n4_; have NB169_171 := n5_; have NB171_169 := n6_; clear n0_ n1_ n2_ n3_ n4_ n5_ n6_; clear hb hbox hg; have hnb21 := NB171_169.out; have hnc21 := NB169_171.out; have hcz22_0 : w20.cell? ⟨gb171, 0, none⟩ = some (.string (⟨#[]⟩ : ByteArray)) := (blk_cell BK171.out 0).trans rfl; have hcz22_1 : w20.cell? ⟨gb171, 1, none⟩ = some (.string (⟨#[]⟩ : ByteArray)) := (blk_cell BK171.out 1).trans rfl; have hfz22_0 := blk_frozen BK171.out 0; have hfz22_1 := blk_frozen BK171.out 1))
                      go_roundg k2
                      case measure => have := HJ1.out; have := HK2.out; omega
                      case rel => exact ⟨(wrap64 (x18_2 + 1)), (by first | rfl | (simp; done) | (simp [*]; done)), H', ⟨by have := HJ1.out; have := HK2.out; omega⟩, ⟨by (with_reducible repeat (first | refine blk_drewN ?_ _ | refine blk_drew ?_ | refine blk_alloc ?_ _)); refine blk_far ?_ NB169_171.out _; (with_reducible repeat (first | refine blk_drewN ?_ _ | refine blk_drew ?_ | refine blk_alloc ?_ _)); refine blk_far ?_ NB169_171.out _; (with_reducible repeat (first | refine blk_drewN ?_ _ | refine blk_drew ?_ | refine blk_alloc ?_ _)); exact BK169.out⟩, ⟨by repeat (first | (with_reducible first | exact HB.out | apply below_alloc | apply pw_below_drewN | apply below_drew1 | refine below_set ?_ GE169.out | refine below_set ?_ GE171.out) | exact HB.out)⟩⟩
                · rw [if_neg c11] at H
                  exact absurd H (by simp)
              · rw [if_neg c10] at H
                exact absurd H (by simp)
            · rw [if_neg c9] at H
              have c9b0 : decide (x18_2 < (l0_1.length : Int)) = false := decide_eq_false c9
              clear c9
              obtain rfl := Option.some.inj H
              go_wp2
              go_ret
              exact ⟨by first | rfl | (simp [errW_none, errW_some] <;> rfl) | (simp [*, errW_none, errW_some] <;> rfl), by repeat (first | (with_reducible first | exact HB.out | apply below_alloc | apply pw_below_drewN | apply below_drew1 | refine below_set ?_ GE169.out) | exact HB.out)⟩
def record_Value.l0 : Nat → ByteArray → List (S47) → Int → Int → Option (ByteArray × Bool)
  | 0, _, _, _, _ => none
  | k + 1, x1, x9, x10, x11 => if x11 < x10 then (if 0 ≤ x11 then (if x11 < (x9.length : Int) then (if ((rd_T47 x9 x11).f0).toList = x1.toList then (some ((rd_T47 x9 x11).f1, true)) else (record_Value.l0 k x1 x9 x10 (wrap64 (x11 + 1)))) else (none)) else (none)) else (some ((⟨#[]⟩ : ByteArray), false))
def record_Value.f (k : Nat) (a0_0 : Int) (l0_1 : List (S47)) (a0_2 : ByteArray) (a1 : ByteArray) : Option (ByteArray × Bool) := record_Value.l0 k a1 l0_1 (l0_1.length : Int) 0
theorem record_Value.mono_l : ∀ k, (∀ y0 y1 y2 y3, LeO (record_Value.l0 k y0 y1 y2 y3) (record_Value.l0 (k + 1) y0 y1 y2 y3))
  | 0 => fun _ _ _ _ r h => by simp [record_Value.l0] at h
  | k + 1 => by
    have ih0 := record_Value.mono_l k
    · intro y0 y1 y2 y3
      unfold record_Value.l0
      repeat' first
      | (with_reducible exact ih0 _ _ _ _)
      | (with_reducible exact LeO.refl _)
      | (with_reducible exact LeO.none _)
      | (with_reducible refine LeO.ite ?_ ?_)
      | (with_reducible refine LeO.bind ?_ (fun _ => ?_))
      | exact ih0 _ _ _ _
      | exact LeO.none _
      | refine LeO.ite ?_ ?_
      | refine LeO.bind ?_ (fun _ => ?_)
theorem record_Value.mono : ∀ a0 a1 a2 a3 k, LeO (record_Value.f k a0 a1 a2 a3) (record_Value.f (k + 1) a0 a1 a2 a3) := by
  intro a0 a1 a2 a3 k
  have ih0 := record_Value.mono_l k
  unfold record_Value.f
  repeat' first
      | (with_reducible exact ih0 _ _ _ _)
      | (with_reducible exact LeO.refl _)
      | (with_reducible exact LeO.none _)
      | (with_reducible refine LeO.ite ?_ ?_)
      | (with_reducible refine LeO.bind ?_ (fun _ => ?_))
      | exact ih0 _ _ _ _
      | exact LeO.none _
      | refine LeO.ite ?_ ?_
      | refine LeO.bind ?_ (fun _ => ?_)
set_option maxHeartbeats 8000000 in
set_option maxRecDepth 100000 in
theorem record_Value.calls (k : Nat) (a0_0 : Int) (A0_1 : Option Addr) (c0_1 : Nat) (l0_1 : List (S47)) (a0_2 : ByteArray) (a1 : ByteArray) (r1 : ByteArray) (r2 : Bool) (w : World) (hr0_1 : Kd.C k47 w A0_1 l0_1.length l0_1) (hc0_1 : l0_1.length ≤ c0_1) (h : record_Value.f k a0_0 l0_1 a0_2 a1 = some (r1, r2)) :
    Calls Try.prog 30 #[.agg #[.int .i64 a0_0, .slice A0_1 l0_1.length c0_1, .string a0_2], .string a1] w fun e w' => e = .returned (.tuple #[.string r1, .bool r2]) ∧ Below w.heap.size w w' := by
  have hu34 := Try.underlying34
  have hu47 := Try.underlying47
  have HR0_1 := Aside0.mk hr0_1
  have HC0_1 := Aside0.mk hc0_1
  clear hr0_1 hc0_1
  have HB := Aside0.mk (Below.refl w.heap.size w)
  have H : (record_Value.l0 k a1 l0_1 (l0_1.length : Int) 0) = some (r1, r2) := h
  clear h
  have H' := Aside0.mk H
  clear H
  go_enter Try.func30, Try.ntmps30
  go_wp2_with (first | ((with_reducible refine gate_dst (N := 2) rfl ?_); refine box_event ?hg (N := 2) ?hd (cs := #[.int .i64 a0_0, .slice A0_1 l0_1.length c0_1, .string a0_2]) (t := 34) ?hr ?_; (case hd => rfl); (case hg => rfl); (case hr => first | (go_simp; done) | (go_simp; rfl)); intro gb176 hg w3 hbox hb; have n0_ := Aside0.mk (below_step (by repeat (first | (with_reducible first | exact HB.out | apply below_alloc | apply pw_below_drewN | apply below_drew1) | exact HB.out)) hb); have n1_ := Aside0.mk (hbox); have n2_ := Aside0.mk ((by rw [hg]; exact (below_size (by repeat (first | (with_reducible first | exact HB.out | apply below_alloc | apply pw_below_drewN | apply below_drew1) | exact HB.out))) : w.heap.size ≤ gb176)); have n3_ := Aside0.mk ((by rw [hg]; exact (below_size (by repeat (first | (with_reducible first | exact HB.out | apply below_alloc | apply pw_below_drewN | apply below_drew1) | exact HB.out))) : w.heap.size ≤ gb176)); clear HB; have HB := n0_; have BK176 := n1_; have GW176 := n2_; have GE176 := n3_; clear n0_ n1_ n2_ n3_; clear hb hbox hg; have hcz4_0 : w3.cell? ⟨gb176, 0, none⟩ = some (.int .i64 a0_0) := (blk_cell BK176.out 0).trans rfl; have hcz4_1 : w3.cell? ⟨gb176, 1, none⟩ = some (.slice A0_1 l0_1.length c0_1) := (blk_cell BK176.out 1).trans rfl; have hcz4_2 : w3.cell? ⟨gb176, 2, none⟩ = some (.string a0_2) := (blk_cell BK176.out 2).trans rfl; have hfz4_0 := blk_frozen BK176.out 0; have hfz4_1 := blk_frozen BK176.out 1; have hfz4_2 := blk_frozen BK176.out 2))
  go_loopg [11] k (fun kq v11 w' => ∃ (x11_1 : Int), v11 = .int .i64 x11_1 ∧ Aside0 (record_Value.l0 kq a1 l0_1 (l0_1.length : Int) x11_1 = some (r1, r2)) ∧ Aside0 (kq ≤ k) ∧ Aside0 (w'.heap[gb176]? = some (.cells #[.int .i64 a0_0, (.slice A0_1 l0_1.length c0_1), .string a0_2] 34 (0, 0))) ∧ Aside0 (Below w.heap.size w w'))
  case atStart => exact ⟨(0), (by first | rfl | (simp; done) | (simp [*]; done)), H', ⟨Nat.le_refl _⟩, ⟨by (with_reducible repeat (first | refine blk_drewN ?_ _ | refine blk_drew ?_ | refine blk_alloc ?_ _)); exact BK176.out⟩, ⟨by repeat (first | (with_reducible first | exact HB.out | apply below_alloc | apply pw_below_drewN | apply below_drew1 | refine below_set ?_ GE176.out) | exact HB.out)⟩⟩
  case round =>
    clear H'
    try clear p2
    try clear c3
    try clear hcz4_0
    try clear hcz4_1
    try clear hcz4_2
    try clear hfz4_0
    try clear hfz4_1
    try clear hfz4_2
    obtain ⟨x11_1, rfl, HA, HK1, BK176, HB⟩ := hrel
    cases gk with
    | zero => exact absurd HA.out (by simp [record_Value.l0])
    | succ k1 =>
      have H := HA.out
      clear HA
      simp only [record_Value.l0] at H
      by_cases c5 : x11_1 < (l0_1.length : Int)
      · rw [if_pos c5] at H
        have c5b0 : decide (x11_1 < (l0_1.length : Int)) = true := decide_eq_true c5
        clear c5
        by_cases c6 : 0 ≤ x11_1
        · rw [if_pos c6] at H
          have c6b0 : decide (0 ≤ x11_1) = true := decide_eq_true c6
          clear c6
          by_cases c7 : x11_1 < (l0_1.length : Int)
          · rw [if_pos c7] at H
            have c7b0 : decide (x11_1 < (l0_1.length : Int)) = true := decide_eq_true c7
            clear c7
            by_cases c8 : ((rd_T47 l0_1 x11_1).f0).toList = a1.toList
            · rw [if_pos c8] at H
              have c8b0 : (((rd_T47 l0_1 x11_1).f0).toList == a1.toList) = true := beq_iff_eq.mpr c8
              have c8b1 : (((rd_T47 l0_1 x11_1).f0).toList != a1.toList) = false := bne_eq_false_iff_eq.mpr c8
              clear c8
              simp only [Option.some.injEq, Prod.mk.injEq] at H
              obtain ⟨rfl, rfl⟩ := H
              have p177 : 0 ≤ (x11_1 : Int) := of_decide_eq_true (by first | (with_reducible assumption) | assumption)
              have q177 : x11_1 < (l0_1.length : Int) := of_decide_eq_true (by first | (with_reducible assumption) | assumption)
              obtain ⟨ad177, e177, hx177_0, hx177_1⟩ := at_T47 HR0_1.out x11_1 p177 q177
              cases e177
              replace hx177_0 := (HB.out.cell (World.block_lt_of_cell? w _ hx177_0)).trans hx177_0
              replace hx177_1 := (HB.out.cell (World.block_lt_of_cell? w _ hx177_1)).trans hx177_1
              replace p177 := eq_true p177
              replace q177 := eq_true q177
              go_wp2_with (first | ((with_reducible refine gate_dst (N := 7) rfl ?_); refine box_event ?hg (N := 7) ?hd (cs := #[.string (⟨#[]⟩ : ByteArray), .string (⟨#[]⟩ : ByteArray)]) (t := 47) ?hr ?_; (case hd => rfl); (case hg => rfl); (case hr => first | (go_simp; done) | (go_simp; rfl)); intro gb178 hg w9 hbox hb; have n0_ := Aside0.mk (blk_below (g := gb176) (o := .cells #[.int .i64 a0_0, .slice (some ad177) l0_1.length c0_1, .string a0_2] 34 (0, 0)) (by (with_reducible repeat (first | refine blk_drewN ?_ _ | refine blk_drew ?_ | refine blk_alloc ?_ _)); exact BK176.out) hb); have n1_ := Aside0.mk (below_step (by repeat (first | (with_reducible first | exact HB.out | apply below_alloc | apply pw_below_drewN | apply below_drew1 | refine below_set ?_ GE176.out) | exact HB.out)) hb); have n2_ := Aside0.mk (hbox); have n3_ := Aside0.mk ((by rw [hg]; exact (below_size (by repeat (first | (with_reducible first | exact HB.out | apply below_alloc | apply pw_below_drewN | apply below_drew1 | refine below_set ?_ GE176.out) | exact HB.out))) : w.heap.size ≤ gb178)); have n4_ := Aside0.mk ((by rw [hg]; exact (below_size (by repeat (first | (with_reducible first | exact HB.out | apply below_alloc | apply pw_below_drewN | apply below_drew1 | refine below_set ?_ GE176.out) | exact HB.out))) : w.heap.size ≤ gb178)); have n5_ := Aside0.mk ((by rw [hg]; exact Nat.ne_of_lt (blk_lt (g := gb176) (o := .cells #[.int .i64 a0_0, .slice (some ad177) l0_1.length c0_1, .string a0_2] 34 (0, 0)) (by (with_reducible repeat (first | refine blk_drewN ?_ _ | refine blk_drew ?_ | refine blk_alloc ?_ _)); exact BK176.out)) : gb176 ≠ gb178)); have n6_ := Aside0.mk ((by rw [hg]; exact Nat.ne_of_gt (blk_lt (g := gb176) (o := .cells #[.int .i64 a0_0, .slice (some ad177) l0_1.length c0_1, .string a0_2] 34 (0, 0)) (by (with_reducible repeat (first | refine blk_drewN ?_ _ | refine blk_drew ?_ | refine blk_alloc ?_ _)); exact BK176.out)) : gb178 ≠ gb176)); clear BK176; clear HB; have BK176 := n0_; have HB := n1_; have BK178 := n2_; have GW178 := n3_; have GE178 := n4_; have NB176_178 := n5_; have NB178_176 := n6_; clear n0_ n1_ n2_ n3_ n4_ n5_ n6_; clear hb hbox hg; have hnb10 := NB178_176.out; have hnc10 := NB176_178.out; have hcz11_0 : w9.cell? ⟨gb178, 0, none⟩ = some (.string (⟨#[]⟩ : ByteArray)) := (blk_cell BK178.out 0).trans rfl; have hcz11_1 : w9.cell? ⟨gb178, 1, none⟩ = some (.string (⟨#[]⟩ : ByteArray)) := (blk_cell BK178.out 1).trans rfl; have hfz11_0 := blk_frozen BK178.out 0; have hfz11_1 := blk_frozen BK178.out 1))
              go_ret2
              exact ⟨by first | rfl | (simp [errW_none, errW_some] <;> rfl) | (simp [*, errW_none, errW_some] <;> rfl), by repeat (first | (with_reducible first | exact HB.out | apply below_alloc | apply pw_below_drewN | apply below_drew1 | refine below_set ?_ GE176.out | refine below_set ?_ GE178.out) | exact HB.out)⟩
            · rw [if_neg c8] at H
              have c8b0 : (((rd_T47 l0_1 x11_1).f0).toList == a1.toList) = false := beq_eq_false_iff_ne.mpr c8
              have c8b1 : (((rd_T47 l0_1 x11_1).f0).toList != a1.toList) = true := bne_iff_ne.mpr c8
              have H' := Aside0.mk H
              clear H
              have p177 : 0 ≤ (x11_1 : Int) := of_decide_eq_true (by first | (with_reducible assumption) | assumption)
              have q177 : x11_1 < (l0_1.length : Int) := of_decide_eq_true (by first | (with_reducible assumption) | assumption)
              obtain ⟨ad177, e177, hx177_0, hx177_1⟩ := at_T47 HR0_1.out x11_1 p177 q177
              cases e177
              replace hx177_0 := (HB.out.cell (World.block_lt_of_cell? w _ hx177_0)).trans hx177_0
              replace hx177_1 := (HB.out.cell (World.block_lt_of_cell? w _ hx177_1)).trans hx177_1
              replace p177 := eq_true p177
              replace q177 := eq_true q177
              go_wp2_with (first | ((with_reducible refine gate_dst (N := 7) rfl ?_); refine box_event ?hg (N := 7) ?hd (cs := #[.string (⟨#[]⟩ : ByteArray), .string (⟨#[]⟩ : ByteArray)]) (t := 47) ?hr ?_; (case hd => rfl); (case hg => rfl); (case hr => first | (go_simp; done) | (go_simp; rfl)); intro gb178 hg w12 hbox hb; have n0_ := Aside0.mk (blk_below (g := gb176) (o := .cells #[.int .i64 a0_0, .slice (some ad177) l0_1.length c0_1, .string a0_2] 34 (0, 0)) (by (with_reducible repeat (first | refine blk_drewN ?_ _ | refine blk_drew ?_ | refine blk_alloc ?_ _)); exact BK176.out) hb); have n1_ := Aside0.mk (below_step (by repeat (first | (with_reducible first | exact HB.out | apply below_alloc | apply pw_below_drewN | apply below_drew1 | refine below_set ?_ GE176.out) | exact HB.out)) hb); have n2_ := Aside0.mk (hbox); have n3_ := Aside0.mk ((by rw [hg]; exact (below_size (by repeat (first | (with_reducible first | exact HB.out | apply below_alloc | apply pw_below_drewN | apply below_drew1 | refine below_set ?_ GE176.out) | exact HB.out))) : w.heap.size ≤ gb178)); have n4_ := Aside0.mk ((by rw [hg]; exact (below_size (by repeat (first | (with_reducible first | exact HB.out | apply below_alloc | apply pw_below_drewN | apply below_drew1 | refine below_set ?_ GE176.out) | exact HB.out))) : w.heap.size ≤ gb178)); have n5_ := Aside0.mk ((by rw [hg]; exact Nat.ne_of_lt (blk_lt (g := gb176) (o := .cells #[.int .i64 a0_0, .slice (some ad177) l0_1.length c0_1, .string a0_2] 34 (0, 0)) (by (with_reducible repeat (first | refine blk_drewN ?_ _ | refine blk_drew ?_ | refine blk_alloc ?_ _)); exact BK176.out)) : gb176 ≠ gb178)); have n6_ := Aside0.mk ((by rw [hg]; exact Nat.ne_of_gt (blk_lt (g := gb176) (o := .cells #[.int .i64 a0_0, .slice (some ad177) l0_1.length c0_1, .string a0_2] 34 (0, 0)) (by (with_reducible repeat (first | refine blk_drewN ?_ _ | refine blk_drew ?_ | refine blk_alloc ?_ _)); exact BK176.out)) : gb178 ≠ gb176)); clear BK176; clear HB; have BK176 := n0_; have HB := n1_; have BK178 := n2_; have GW178 := n3_; have GE178 := n4_; have NB176_178 := n5_; have NB178_176 := n6_; clear n0_ n1_ n2_ n3_ n4_ n5_ n6_; clear hb hbox hg; have hnb13 := NB178_176.out; have hnc13 := NB176_178.out; have hcz14_0 : w12.cell? ⟨gb178, 0, none⟩ = some (.string (⟨#[]⟩ : ByteArray)) := (blk_cell BK178.out 0).trans rfl; have hcz14_1 : w12.cell? ⟨gb178, 1, none⟩ = some (.string (⟨#[]⟩ : ByteArray)) := (blk_cell BK178.out 1).trans rfl; have hfz14_0 := blk_frozen BK178.out 0; have hfz14_1 := blk_frozen BK178.out 1))
              go_roundg k1
              case measure => have := HK1.out; omega
              case rel => exact ⟨(wrap64 (x11_1 + 1)), (by first | rfl | (simp; done) | (simp [*]; done)), H', ⟨by have := HK1.out; omega⟩, ⟨by (with_reducible repeat (first | refine blk_drewN ?_ _ | refine blk_drew ?_ | refine blk_alloc ?_ _)); refine blk_far ?_ NB176_178.out _; (with_reducible repeat (first | refine blk_drewN ?_ _ | refine blk_drew ?_ | refine blk_alloc ?_ _)); refine blk_far ?_ NB176_178.out _; (with_reducible repeat (first | refine blk_drewN ?_ _ | refine blk_drew ?_ | refine blk_alloc ?_ _)); exact BK176.out⟩, ⟨by repeat (first | (with_reducible first | exact HB.out | apply below_alloc | apply pw_below_drewN | apply below_drew1 | refine below_set ?_ GE176.out | refine below_set ?_ GE178.out) | exact HB.out)⟩⟩
          · rw [if_neg c7] at H
            exact absurd H (by simp)
        · rw [if_neg c6] at H
          exact absurd H (by simp)
      · rw [if_neg c5] at H
        have c5b0 : decide (x11_1 < (l0_1.length : Int)) = false := decide_eq_false c5
        clear c5
        simp only [Option.some.injEq, Prod.mk.injEq] at H
        obtain ⟨rfl, rfl⟩ := H
        go_wp2
        go_ret2
        exact ⟨by first | rfl | (simp [errW_none, errW_some] <;> rfl) | (simp [*, errW_none, errW_some] <;> rfl), by repeat (first | (with_reducible first | exact HB.out | apply below_alloc | apply pw_below_drewN | apply below_drew1 | refine below_set ?_ GE176.out) | exact HB.out)⟩
def magpieref04_Value.l0 : Nat → ByteArray → List (S47) → Int → Int → Option (ByteArray × Bool)
  | 0, _, _, _, _ => none
  | k + 1, x1, x9, x10, x11 => if x11 < x10 then (if 0 ≤ x11 then (if x11 < (x9.length : Int) then (if ((rd_T47 x9 x11).f0).toList = x1.toList then (some ((rd_T47 x9 x11).f1, true)) else (magpieref04_Value.l0 k x1 x9 x10 (wrap64 (x11 + 1)))) else (none)) else (none)) else (some ((⟨#[]⟩ : ByteArray), false))
def magpieref04_Value.f (k : Nat) (a0_0 : Int) (l0_1 : List (S47)) (a0_2 : ByteArray) (a1 : ByteArray) : Option (ByteArray × Bool) := magpieref04_Value.l0 k a1 l0_1 (l0_1.length : Int) 0
theorem magpieref04_Value.mono_l : ∀ k, (∀ y0 y1 y2 y3, LeO (magpieref04_Value.l0 k y0 y1 y2 y3) (magpieref04_Value.l0 (k + 1) y0 y1 y2 y3))
  | 0 => fun _ _ _ _ r h => by simp [magpieref04_Value.l0] at h
  | k + 1 => by
    have ih0 := magpieref04_Value.mono_l k
    · intro y0 y1 y2 y3
      unfold magpieref04_Value.l0
      repeat' first
      | (with_reducible exact ih0 _ _ _ _)
      | (with_reducible exact LeO.refl _)
      | (with_reducible exact LeO.none _)
      | (with_reducible refine LeO.ite ?_ ?_)
      | (with_reducible refine LeO.bind ?_ (fun _ => ?_))
      | exact ih0 _ _ _ _
      | exact LeO.none _
      | refine LeO.ite ?_ ?_
      | refine LeO.bind ?_ (fun _ => ?_)
theorem magpieref04_Value.mono : ∀ a0 a1 a2 a3 k, LeO (magpieref04_Value.f k a0 a1 a2 a3) (magpieref04_Value.f (k + 1) a0 a1 a2 a3) := by
  intro a0 a1 a2 a3 k
  have ih0 := magpieref04_Value.mono_l k
  unfold magpieref04_Value.f
  repeat' first
      | (with_reducible exact ih0 _ _ _ _)
      | (with_reducible exact LeO.refl _)
      | (with_reducible exact LeO.none _)
      | (with_reducible refine LeO.ite ?_ ?_)
      | (with_reducible refine LeO.bind ?_ (fun _ => ?_))
      | exact ih0 _ _ _ _
      | exact LeO.none _
      | refine LeO.ite ?_ ?_
      | refine LeO.bind ?_ (fun _ => ?_)
set_option maxHeartbeats 8000000 in
set_option maxRecDepth 100000 in
theorem magpieref04_Value.calls (k : Nat) (a0_0 : Int) (A0_1 : Option Addr) (c0_1 : Nat) (l0_1 : List (S47)) (a0_2 : ByteArray) (a1 : ByteArray) (r1 : ByteArray) (r2 : Bool) (w : World) (hr0_1 : Kd.C k47 w A0_1 l0_1.length l0_1) (hc0_1 : l0_1.length ≤ c0_1) (h : magpieref04_Value.f k a0_0 l0_1 a0_2 a1 = some (r1, r2)) :
    Calls Try.prog 31 #[.agg #[.int .i64 a0_0, .slice A0_1 l0_1.length c0_1, .string a0_2], .string a1] w fun e w' => e = .returned (.tuple #[.string r1, .bool r2]) ∧ Below w.heap.size w w' := by
  have hu34 := Try.underlying34
  have hu47 := Try.underlying47
  have HR0_1 := Aside0.mk hr0_1
  have HC0_1 := Aside0.mk hc0_1
  clear hr0_1 hc0_1
  have HB := Aside0.mk (Below.refl w.heap.size w)
  have H : (magpieref04_Value.l0 k a1 l0_1 (l0_1.length : Int) 0) = some (r1, r2) := h
  clear h
  have H' := Aside0.mk H
  clear H
  go_enter Try.func31, Try.ntmps31
  go_wp2_with (first | ((with_reducible refine gate_dst (N := 2) rfl ?_); refine box_event ?hg (N := 2) ?hd (cs := #[.int .i64 a0_0, .slice A0_1 l0_1.length c0_1, .string a0_2]) (t := 34) ?hr ?_; (case hd => rfl); (case hg => rfl); (case hr => first | (go_simp; done) | (go_simp; rfl)); intro gb179 hg w3 hbox hb; have n0_ := Aside0.mk (below_step (by repeat (first | (with_reducible first | exact HB.out | apply below_alloc | apply pw_below_drewN | apply below_drew1) | exact HB.out)) hb); have n1_ := Aside0.mk (hbox); have n2_ := Aside0.mk ((by rw [hg]; exact (below_size (by repeat (first | (with_reducible first | exact HB.out | apply below_alloc | apply pw_below_drewN | apply below_drew1) | exact HB.out))) : w.heap.size ≤ gb179)); have n3_ := Aside0.mk ((by rw [hg]; exact (below_size (by repeat (first | (with_reducible first | exact HB.out | apply below_alloc | apply pw_below_drewN | apply below_drew1) | exact HB.out))) : w.heap.size ≤ gb179)); clear HB; have HB := n0_; have BK179 := n1_; have GW179 := n2_; have GE179 := n3_; clear n0_ n1_ n2_ n3_; clear hb hbox hg; have hcz4_0 : w3.cell? ⟨gb179, 0, none⟩ = some (.int .i64 a0_0) := (blk_cell BK179.out 0).trans rfl; have hcz4_1 : w3.cell? ⟨gb179, 1, none⟩ = some (.slice A0_1 l0_1.length c0_1) := (blk_cell BK179.out 1).trans rfl; have hcz4_2 : w3.cell? ⟨gb179, 2, none⟩ = some (.string a0_2) := (blk_cell BK179.out 2).trans rfl; have hfz4_0 := blk_frozen BK179.out 0; have hfz4_1 := blk_frozen BK179.out 1; have hfz4_2 := blk_frozen BK179.out 2))
  go_loopg [11] k (fun kq v11 w' => ∃ (x11_1 : Int), v11 = .int .i64 x11_1 ∧ Aside0 (magpieref04_Value.l0 kq a1 l0_1 (l0_1.length : Int) x11_1 = some (r1, r2)) ∧ Aside0 (kq ≤ k) ∧ Aside0 (w'.heap[gb179]? = some (.cells #[.int .i64 a0_0, (.slice A0_1 l0_1.length c0_1), .string a0_2] 34 (0, 0))) ∧ Aside0 (Below w.heap.size w w'))
  case atStart => exact ⟨(0), (by first | rfl | (simp; done) | (simp [*]; done)), H', ⟨Nat.le_refl _⟩, ⟨by (with_reducible repeat (first | refine blk_drewN ?_ _ | refine blk_drew ?_ | refine blk_alloc ?_ _)); exact BK179.out⟩, ⟨by repeat (first | (with_reducible first | exact HB.out | apply below_alloc | apply pw_below_drewN | apply below_drew1 | refine below_set ?_ GE179.out) | exact HB.out)⟩⟩
  case round =>
    clear H'
    try clear p2
    try clear c3
    try clear hcz4_0
    try clear hcz4_1
    try clear hcz4_2
    try clear hfz4_0
    try clear hfz4_1
    try clear hfz4_2
    obtain ⟨x11_1, rfl, HA, HK1, BK179, HB⟩ := hrel
    cases gk with
    | zero => exact absurd HA.out (by simp [magpieref04_Value.l0])
    | succ k1 =>
      have H := HA.out
      clear HA
      simp only [magpieref04_Value.l0] at H
      by_cases c5 : x11_1 < (l0_1.length : Int)
      · rw [if_pos c5] at H
        have c5b0 : decide (x11_1 < (l0_1.length : Int)) = true := decide_eq_true c5
        clear c5
        by_cases c6 : 0 ≤ x11_1
        · rw [if_pos c6] at H
          have c6b0 : decide (0 ≤ x11_1) = true := decide_eq_true c6
          clear c6
          by_cases c7 : x11_1 < (l0_1.length : Int)
          · rw [if_pos c7] at H
            have c7b0 : decide (x11_1 < (l0_1.length : Int)) = true := decide_eq_true c7
            clear c7
            by_cases c8 : ((rd_T47 l0_1 x11_1).f0).toList = a1.toList
            · rw [if_pos c8] at H
              have c8b0 : (((rd_T47 l0_1 x11_1).f0).toList == a1.toList) = true := beq_iff_eq.mpr c8
              have c8b1 : (((rd_T47 l0_1 x11_1).f0).toList != a1.toList) = false := bne_eq_false_iff_eq.mpr c8
              clear c8
              simp only [Option.some.injEq, Prod.mk.injEq] at H
              obtain ⟨rfl, rfl⟩ := H
              have p180 : 0 ≤ (x11_1 : Int) := of_decide_eq_true (by first | (with_reducible assumption) | assumption)
              have q180 : x11_1 < (l0_1.length : Int) := of_decide_eq_true (by first | (with_reducible assumption) | assumption)
              obtain ⟨ad180, e180, hx180_0, hx180_1⟩ := at_T47 HR0_1.out x11_1 p180 q180
              cases e180
              replace hx180_0 := (HB.out.cell (World.block_lt_of_cell? w _ hx180_0)).trans hx180_0
              replace hx180_1 := (HB.out.cell (World.block_lt_of_cell? w _ hx180_1)).trans hx180_1
              replace p180 := eq_true p180
              replace q180 := eq_true q180
              go_wp2_with (first | ((with_reducible refine gate_dst (N := 7) rfl ?_); refine box_event ?hg (N := 7) ?hd (cs := #[.string (⟨#[]⟩ : ByteArray), .string (⟨#[]⟩ : ByteArray)]) (t := 47) ?hr ?_; (case hd => rfl); (case hg => rfl); (case hr => first | (go_simp; done) | (go_simp; rfl)); intro gb181 hg w9 hbox hb; have n0_ := Aside0.mk (blk_below (g := gb179) (o := .cells #[.int .i64 a0_0, .slice (some ad180) l0_1.length c0_1, .string a0_2] 34 (0, 0)) (by (with_reducible repeat (first | refine blk_drewN ?_ _ | refine blk_drew ?_ | refine blk_alloc ?_ _)); exact BK179.out) hb); have n1_ := Aside0.mk (below_step (by repeat (first | (with_reducible first | exact HB.out | apply below_alloc | apply pw_below_drewN | apply below_drew1 | refine below_set ?_ GE179.out) | exact HB.out)) hb); have n2_ := Aside0.mk (hbox); have n3_ := Aside0.mk ((by rw [hg]; exact (below_size (by repeat (first | (with_reducible first | exact HB.out | apply below_alloc | apply pw_below_drewN | apply below_drew1 | refine below_set ?_ GE179.out) | exact HB.out))) : w.heap.size ≤ gb181)); have n4_ := Aside0.mk ((by rw [hg]; exact (below_size (by repeat (first | (with_reducible first | exact HB.out | apply below_alloc | apply pw_below_drewN | apply below_drew1 | refine below_set ?_ GE179.out) | exact HB.out))) : w.heap.size ≤ gb181)); have n5_ := Aside0.mk ((by rw [hg]; exact Nat.ne_of_lt (blk_lt (g := gb179) (o := .cells #[.int .i64 a0_0, .slice (some ad180) l0_1.length c0_1, .string a0_2] 34 (0, 0)) (by (with_reducible repeat (first | refine blk_drewN ?_ _ | refine blk_drew ?_ | refine blk_alloc ?_ _)); exact BK179.out)) : gb179 ≠ gb181)); have n6_ := Aside0.mk ((by rw [hg]; exact Nat.ne_of_gt (blk_lt (g := gb179) (o := .cells #[.int .i64 a0_0, .slice (some ad180) l0_1.length c0_1, .string a0_2] 34 (0, 0)) (by (with_reducible repeat (first | refine blk_drewN ?_ _ | refine blk_drew ?_ | refine blk_alloc ?_ _)); exact BK179.out)) : gb181 ≠ gb179)); clear BK179; clear HB; have BK179 := n0_; have HB := n1_; have BK181 := n2_; have GW181 := n3_; have GE181 := n4_; have NB179_181 := n5_; have NB181_179 := n6_; clear n0_ n1_ n2_ n3_ n4_ n5_ n6_; clear hb hbox hg; have hnb10 := NB181_179.out; have hnc10 := NB179_181.out; have hcz11_0 : w9.cell? ⟨gb181, 0, none⟩ = some (.string (⟨#[]⟩ : ByteArray)) := (blk_cell BK181.out 0).trans rfl; have hcz11_1 : w9.cell? ⟨gb181, 1, none⟩ = some (.string (⟨#[]⟩ : ByteArray)) := (blk_cell BK181.out 1).trans rfl; have hfz11_0 := blk_frozen BK181.out 0; have hfz11_1 := blk_frozen BK181.out 1))
              go_ret2
              exact ⟨by first | rfl | (simp [errW_none, errW_some] <;> rfl) | (simp [*, errW_none, errW_some] <;> rfl), by repeat (first | (with_reducible first | exact HB.out | apply below_alloc | apply pw_below_drewN | apply below_drew1 | refine below_set ?_ GE179.out | refine below_set ?_ GE181.out) | exact HB.out)⟩
            · rw [if_neg c8] at H
              have c8b0 : (((rd_T47 l0_1 x11_1).f0).toList == a1.toList) = false := beq_eq_false_iff_ne.mpr c8
              have c8b1 : (((rd_T47 l0_1 x11_1).f0).toList != a1.toList) = true := bne_iff_ne.mpr c8
              have H' := Aside0.mk H
              clear H
              have p180 : 0 ≤ (x11_1 : Int) := of_decide_eq_true (by first | (with_reducible assumption) | assumption)
              have q180 : x11_1 < (l0_1.length : Int) := of_decide_eq_true (by first | (with_reducible assumption) | assumption)
              obtain ⟨ad180, e180, hx180_0, hx180_1⟩ := at_T47 HR0_1.out x11_1 p180 q180
              cases e180
              replace hx180_0 := (HB.out.cell (World.block_lt_of_cell? w _ hx180_0)).trans hx180_0
              replace hx180_1 := (HB.out.cell (World.block_lt_of_cell? w _ hx180_1)).trans hx180_1
              replace p180 := eq_true p180
              replace q180 := eq_true q180
              go_wp2_with (first | ((with_reducible refine gate_dst (N := 7) rfl ?_); refine box_event ?hg (N := 7) ?hd (cs := #[.string (⟨#[]⟩ : ByteArray), .string (⟨#[]⟩ : ByteArray)]) (t := 47) ?hr ?_; (case hd => rfl); (case hg => rfl); (case hr => first | (go_simp; done) | (go_simp; rfl)); intro gb181 hg w12 hbox hb; have n0_ := Aside0.mk (blk_below (g := gb179) (o := .cells #[.int .i64 a0_0, .slice (some ad180) l0_1.length c0_1, .string a0_2] 34 (0, 0)) (by (with_reducible repeat (first | refine blk_drewN ?_ _ | refine blk_drew ?_ | refine blk_alloc ?_ _)); exact BK179.out) hb); have n1_ := Aside0.mk (below_step (by repeat (first | (with_reducible first | exact HB.out | apply below_alloc | apply pw_below_drewN | apply below_drew1 | refine below_set ?_ GE179.out) | exact HB.out)) hb); have n2_ := Aside0.mk (hbox); have n3_ := Aside0.mk ((by rw [hg]; exact (below_size (by repeat (first | (with_reducible first | exact HB.out | apply below_alloc | apply pw_below_drewN | apply below_drew1 | refine below_set ?_ GE179.out) | exact HB.out))) : w.heap.size ≤ gb181)); have n4_ := Aside0.mk ((by rw [hg]; exact (below_size (by repeat (first | (with_reducible first | exact HB.out | apply below_alloc | apply pw_below_drewN | apply below_drew1 | refine below_set ?_ GE179.out) | exact HB.out))) : w.heap.size ≤ gb181)); have n5_ := Aside0.mk ((by rw [hg]; exact Nat.ne_of_lt (blk_lt (g := gb179) (o := .cells #[.int .i64 a0_0, .slice (some ad180) l0_1.length c0_1, .string a0_2] 34 (0, 0)) (by (with_reducible repeat (first | refine blk_drewN ?_ _ | refine blk_drew ?_ | refine blk_alloc ?_ _)); exact BK179.out)) : gb179 ≠ gb181)); have n6_ := Aside0.mk ((by rw [hg]; exact Nat.ne_of_gt (blk_lt (g := gb179) (o := .cells #[.int .i64 a0_0, .slice (some ad180) l0_1.length c0_1, .string a0_2] 34 (0, 0)) (by (with_reducible repeat (first | refine blk_drewN ?_ _ | refine blk_drew ?_ | refine blk_alloc ?_ _)); exact BK179.out)) : gb181 ≠ gb179)); clear BK179; clear HB; have BK179 := n0_; have HB := n1_; have BK181 := n2_; have GW181 := n3_; have GE181 := n4_; have NB179_181 := n5_; have NB181_179 := n6_; clear n0_ n1_ n2_ n3_ n4_ n5_ n6_; clear hb hbox hg; have hnb13 := NB181_179.out; have hnc13 := NB179_181.out; have hcz14_0 : w12.cell? ⟨gb181, 0, none⟩ = some (.string (⟨#[]⟩ : ByteArray)) := (blk_cell BK181.out 0).trans rfl; have hcz14_1 : w12.cell? ⟨gb181, 1, none⟩ = some (.string (⟨#[]⟩ : ByteArray)) := (blk_cell BK181.out 1).trans rfl; have hfz14_0 := blk_frozen BK181.out 0; have hfz14_1 := blk_frozen BK181.out 1))
              go_roundg k1
              case measure => have := HK1.out; omega
              case rel => exact ⟨(wrap64 (x11_1 + 1)), (by first | rfl | (simp; done) | (simp [*]; done)), H', ⟨by have := HK1.out; omega⟩, ⟨by (with_reducible repeat (first | refine blk_drewN ?_ _ | refine blk_drew ?_ | refine blk_alloc ?_ _)); refine blk_far ?_ NB179_181.out _; (with_reducible repeat (first | refine blk_drewN ?_ _ | refine blk_drew ?_ | refine blk_alloc ?_ _)); refine blk_far ?_ NB179_181.out _; (with_reducible repeat (first | refine blk_drewN ?_ _ | refine blk_drew ?_ | refine blk_alloc ?_ _)); exact BK179.out⟩, ⟨by repeat (first | (with_reducible first | exact HB.out | apply below_alloc | apply pw_below_drewN | apply below_drew1 | refine below_set ?_ GE179.out | refine below_set ?_ GE181.out) | exact HB.out)⟩⟩
          · rw [if_neg c7] at H
            exact absurd H (by simp)
        · rw [if_neg c6] at H
          exact absurd H (by simp)
      · rw [if_neg c5] at H
        have c5b0 : decide (x11_1 < (l0_1.length : Int)) = false := decide_eq_false c5
        clear c5
        simp only [Option.some.injEq, Prod.mk.injEq] at H
        obtain ⟨rfl, rfl⟩ := H
        go_wp2
        go_ret2
        exact ⟨by first | rfl | (simp [errW_none, errW_some] <;> rfl) | (simp [*, errW_none, errW_some] <;> rfl), by repeat (first | (with_reducible first | exact HB.out | apply below_alloc | apply pw_below_drewN | apply below_drew1 | refine below_set ?_ GE179.out) | exact HB.out)⟩
mutual
def magpieref04_Name.j0 : Nat → ByteArray → Bool → Option (Bool)
  | 0, _, _ => none
  | k + 1, x0, x21 => if x21 = true then (some false) else (magpieref04_Name.l0 k x0 0)
def magpieref04_Name.l0 : Nat → ByteArray → Int → Option (Bool)
  | 0, _, _ => none
  | k + 1, x0, x3 => if x3 < (x0.size : Int) then (if 0 ≤ x3 then (if (bt x0 x3) = 95 then (magpieref04_Name.l0 k x0 (wrap64 (x3 + 1))) else (if (bt x0 x3) ≥ 48 then (if ((bt x0 x3) ≤ 57) then (magpieref04_Name.l0 k x0 (wrap64 (x3 + 1))) else (if (bt x0 x3) ≥ 97 then (if ((bt x0 x3) ≤ 122) then (magpieref04_Name.l0 k x0 (wrap64 (x3 + 1))) else (if (bt x0 x3) ≥ 65 then (if ((bt x0 x3) ≤ 90) then (magpieref04_Name.l0 k x0 (wrap64 (x3 + 1))) else (some false)) else (some false))) else (if (bt x0 x3) ≥ 65 then (if ((bt x0 x3) ≤ 90) then (magpieref04_Name.l0 k x0 (wrap64 (x3 + 1))) else (some false)) else (some false)))) else (if (bt x0 x3) ≥ 97 then (if ((bt x0 x3) ≤ 122) then (magpieref04_Name.l0 k x0 (wrap64 (x3 + 1))) else (if (bt x0 x3) ≥ 65 then (if ((bt x0 x3) ≤ 90) then (magpieref04_Name.l0 k x0 (wrap64 (x3 + 1))) else (some false)) else (some false))) else (if (bt x0 x3) ≥ 65 then (if ((bt x0 x3) ≤ 90) then (magpieref04_Name.l0 k x0 (wrap64 (x3 + 1))) else (some false)) else (some false))))) else (none)) else (some true)
end
def magpieref04_Name.f (k : Nat) (a0 : ByteArray) : Option (Bool) := if a0.toList = ([] : List UInt8) then (magpieref04_Name.j0 k a0 true) else (if (a0.size : Int) > 20 then (magpieref04_Name.j0 k a0 true) else (if 0 < (a0.size : Int) then (if (bt a0 0) ≥ 48 then (magpieref04_Name.j0 k a0 (decide ((bt a0 0) ≤ 57))) else (magpieref04_Name.j0 k a0 false)) else (none)))
theorem magpieref04_Name.mono_l : ∀ k, (∀ y0 y1, LeO (magpieref04_Name.j0 k y0 y1) (magpieref04_Name.j0 (k + 1) y0 y1)) ∧ (∀ y0 y1, LeO (magpieref04_Name.l0 k y0 y1) (magpieref04_Name.l0 (k + 1) y0 y1))
  | 0 => ⟨fun _ _ r h => by simp [magpieref04_Name.j0] at h, fun _ _ r h => by simp [magpieref04_Name.l0] at h⟩
  | k + 1 => by
    obtain ⟨ih0, ih1⟩ := magpieref04_Name.mono_l k
    refine ⟨?_, ?_⟩
    · intro y0 y1
      unfold magpieref04_Name.j0
      repeat' first
      | (with_reducible exact ih0 _ _)
      | (with_reducible exact ih1 _ _)
      | (with_reducible exact LeO.refl _)
      | (with_reducible exact LeO.none _)
      | (with_reducible refine LeO.ite ?_ ?_)
      | (with_reducible refine LeO.bind ?_ (fun _ => ?_))
      | exact ih0 _ _
      | exact ih1 _ _
      | exact LeO.none _
      | refine LeO.ite ?_ ?_
      | refine LeO.bind ?_ (fun _ => ?_)
    · intro y0 y1
      unfold magpieref04_Name.l0
      repeat' first
      | (with_reducible exact ih0 _ _)
      | (with_reducible exact ih1 _ _)
      | (with_reducible exact LeO.refl _)
      | (with_reducible exact LeO.none _)
      | (with_reducible refine LeO.ite ?_ ?_)
      | (with_reducible refine LeO.bind ?_ (fun _ => ?_))
      | exact ih0 _ _
      | exact ih1 _ _
      | exact LeO.none _
      | refine LeO.ite ?_ ?_
      | refine LeO.bind ?_ (fun _ => ?_)
theorem magpieref04_Name.mono : ∀ a0 k, LeO (magpieref04_Name.f k a0) (magpieref04_Name.f (k + 1) a0) := by
  intro a0 k
  obtain ⟨ih0, ih1⟩ := magpieref04_Name.mono_l k
  unfold magpieref04_Name.f
  repeat' first
      | (with_reducible exact ih0 _ _)
      | (with_reducible exact ih1 _ _)
      | (with_reducible exact LeO.refl _)
      | (with_reducible exact LeO.none _)
      | (with_reducible refine LeO.ite ?_ ?_)
      | (with_reducible refine LeO.bind ?_ (fun _ => ?_))
      | exact ih0 _ _
      | exact ih1 _ _
      | exact LeO.none _
      | refine LeO.ite ?_ ?_
      | refine LeO.bind ?_ (fun _ => ?_)
set_option maxHeartbeats 8000000 in
set_option maxRecDepth 100000 in
theorem magpieref04_Name.calls (k : Nat) (a0 : ByteArray) (r : Bool) (w : World) (h : magpieref04_Name.f k a0 = some r) :
    Calls Try.prog 34 #[.string a0] w fun e w' => e = .returned (.bool r) ∧ Drawn0 w w' := by
  have H : (if a0.toList = ([] : List UInt8) then (magpieref04_Name.j0 k a0 true) else (if (a0.size : Int) > 20 then (magpieref04_Name.j0 k a0 true) else (if 0 < (a0.size : Int) then (if (bt a0 0) ≥ 48 then (magpieref04_Name.j0 k a0 (decide ((bt a0 0) ≤ 57))) else (magpieref04_Name.j0 k a0 false)) else (none)))) = some r := h
  clear h
  have HC2 := Aside0.mk H
  clear H
  go_enter Try.func34, Try.ntmps34
  go_upto_region 1 with (fail)
  go_cut [21] (fun v21 wc => ∃ (kq : Nat) (x21_1 : Bool), v21 = .bool x21_1 ∧ Aside0 (magpieref04_Name.j0 kq a0 x21_1 = some r) ∧ Aside0 (kq ≤ k) ∧ Drawn0 w wc)
  case first =>
    have H := HC2.out
    clear HC2
    by_cases c3 : a0.toList = ([] : List UInt8)
    · rw [if_pos c3] at H
      have c3b0 : (a0.toList == ([] : List UInt8)) = true := beq_iff_eq.mpr c3
      have c3b1 : (a0.toList != ([] : List UInt8)) = false := bne_eq_false_iff_eq.mpr c3
      clear c3
      (first | rw [c3b0] | (simp only [i64_w, i32_w]; rw [c3b0]) | skip)
      have H' := Aside0.mk H
      clear H
      go_wp2
      go_meet
      case rel => exact ⟨_, (true), (by first | rfl | (simp; done) | (simp [*]; done)), H', ⟨by first | omega | exact Nat.le_refl _⟩, by repeat (first | exact Drawn0.refl _ | apply Drawn0.step)⟩
    · rw [if_neg c3] at H
      have c3b0 : (a0.toList == ([] : List UInt8)) = false := beq_eq_false_iff_ne.mpr c3
      have c3b1 : (a0.toList != ([] : List UInt8)) = true := bne_iff_ne.mpr c3
      (first | rw [c3b0] | (simp only [i64_w, i32_w]; rw [c3b0]) | skip)
      by_cases c4 : (a0.size : Int) > 20
      · rw [if_pos c4] at H
        have c4b0 : decide (20 < (a0.size : Int)) = true := decide_eq_true c4
        have c4b1 : decide (20 < a0.size) = true := decide_eq_true (by omega)
        clear c4
        have H' := Aside0.mk H
        clear H
        go_wp2
        go_meet
        case rel => exact ⟨_, (true), (by first | rfl | (simp; done) | (simp [*]; done)), H', ⟨by first | omega | exact Nat.le_refl _⟩, by repeat (first | exact Drawn0.refl _ | apply Drawn0.step)⟩
      · rw [if_neg c4] at H
        have c4b0 : decide (20 < (a0.size : Int)) = false := decide_eq_false c4
        have c4b1 : decide (20 < a0.size) = false := decide_eq_false (by omega)
        clear c4
        by_cases c5 : 0 < (a0.size : Int)
        · rw [if_pos c5] at H
          have c5b0 : decide (0 < (a0.size : Int)) = true := decide_eq_true c5
          have c5b1 : decide (0 < a0.size) = true := decide_eq_true (by omega)
          clear c5
          by_cases c7 : (bt a0 0) ≥ 48
          · rw [if_pos c7] at H
            have c7b0 : decide (48 ≤ (bt a0 0)) = true := decide_eq_true c7
            clear c7
            have H' := Aside0.mk H
            clear H
            have p6 : 0 ≤ (0 : Int) := (by omega)
            have q6 : 0 < a0.size := (by have : (0 : Int) < (a0.size : Int) := of_decide_eq_true (by first | (with_reducible assumption) | assumption); omega)
            have hx6 : ∀ h : 0 < a0.size, ((a0[0]'h).toNat : Int) = bt a0 0 := bt_at a0 0
            clear p6
            have qi6 : (0 < (a0.size : Int)) = True := eq_true (of_decide_eq_true (by first | (with_reducible assumption) | assumption))
            replace q6 := eq_true q6
            have p8 : 0 ≤ (0 : Int) := (by omega)
            have q8 : 0 < a0.size := (by have : (0 : Int) < (a0.size : Int) := of_decide_eq_true (by first | (with_reducible assumption) | assumption); omega)
            have hx8 : ∀ h : 0 < a0.size, ((a0[0]'h).toNat : Int) = bt a0 0 := bt_at a0 0
            clear p8
            have qi8 : (0 < (a0.size : Int)) = True := eq_true (of_decide_eq_true (by first | (with_reducible assumption) | assumption))
            replace q8 := eq_true q8
            go_wp2
            go_meet
            case rel => exact ⟨_, (decide ((bt a0 0) ≤ 57)), (by first | rfl | (simp; done) | (simp [*]; done)), H', ⟨by first | omega | exact Nat.le_refl _⟩, by repeat (first | exact Drawn0.refl _ | apply Drawn0.step)⟩
          · rw [if_neg c7] at H
            have c7b0 : decide (48 ≤ (bt a0 0)) = false := decide_eq_false c7
            clear c7
            have H' := Aside0.mk H
            clear H
            have p6 : 0 ≤ (0 : Int) := (by omega)
            have q6 : 0 < a0.size := (by have : (0 : Int) < (a0.size : Int) := of_decide_eq_true (by first | (with_reducible assumption) | assumption); omega)
            have hx6 : ∀ h : 0 < a0.size, ((a0[0]'h).toNat : Int) = bt a0 0 := bt_at a0 0
            clear p6
            have qi6 : (0 < (a0.size : Int)) = True := eq_true (of_decide_eq_true (by first | (with_reducible assumption) | assumption))
            replace q6 := eq_true q6
            go_wp2
            go_meet
            case rel => exact ⟨_, (false), (by first | rfl | (simp; done) | (simp [*]; done)), H', ⟨by first | omega | exact Nat.le_refl _⟩, by repeat (first | exact Drawn0.refl _ | apply Drawn0.step)⟩
        · rw [if_neg c5] at H
          exact absurd H (by simp)
  case rest =>
    clear HC2
    try clear p2
    try clear c3
    try clear c3b0
    try clear c3b1
    try clear c4
    try clear c4b0
    try clear c4b1
    try clear c5
    try clear c5b0
    try clear c5b1
    try clear p6
    try clear q6
    try clear hx6
    try clear qi6
    try clear c7
    try clear c7b0
    try clear p8
    try clear q8
    try clear hx8
    try clear qi8
    try clear p6
    try clear p8
    try clear q6
    try clear q8
    obtain ⟨kq, x21_1, rfl, HA, HJ1, ⟨mc1, rfl⟩⟩ := hcut
    cases kq with
    | zero => exact absurd HA.out (by simp [magpieref04_Name.j0])
    | succ kj1 =>
      have H := HA.out
      clear HA
      simp only [magpieref04_Name.j0] at H
      by_cases c9 : x21_1 = true
      · subst c9
        have H1 : (some false) = some r := by rw [if_pos rfl] at H; exact H
        clear H
        have H := H1
        clear H1
        obtain rfl := Option.some.inj H
        go_wp2
        go_ret
        exact ⟨by first | rfl | (simp; done) | (simp [*]; done), by repeat (first | exact Drawn0.refl _ | apply Drawn0.step)⟩
      · replace c9 := Bool.eq_false_iff.mpr c9
        subst c9
        have H1 : (magpieref04_Name.l0 kj1 a0 0) = some r := by rw [if_neg (show ¬ (false = true) by decide)] at H; exact H
        clear H
        have H := H1
        clear H1
        have H' := Aside0.mk H
        clear H
        go_wp2
        go_loopg [3] kj1 (fun kq v3 w' => ∃ (x3_2 : Int), v3 = .int .i64 x3_2 ∧ Aside0 (magpieref04_Name.l0 kq a0 x3_2 = some r) ∧ Aside0 (kq ≤ kj1) ∧ Drawn0 w w')
        case atStart => exact ⟨(0), (by first | rfl | (simp; done) | (simp [*]; done)), H', ⟨Nat.le_refl _⟩, by repeat (first | exact Drawn0.refl _ | apply Drawn0.step)⟩
        case round =>
          clear H'
          try clear c1
          try clear p2
          try clear c3
          try clear c3b0
          try clear c3b1
          try clear c4
          try clear c4b0
          try clear c4b1
          try clear c5
          try clear c5b0
          try clear c5b1
          try clear p6
          try clear q6
          try clear hx6
          try clear qi6
          try clear c7
          try clear c7b0
          try clear p8
          try clear q8
          try clear hx8
          try clear qi8
          try clear c9
          try clear p2
          try clear p6
          try clear p8
          try clear q6
          try clear q8
          obtain ⟨x3_2, rfl, HA, HK2, ⟨m2, rfl⟩⟩ := hrel
          cases gk with
          | zero => exact absurd HA.out (by simp [magpieref04_Name.l0])
          | succ k2 =>
            have H := HA.out
            clear HA
            simp only [magpieref04_Name.l0] at H
            by_cases c10 : x3_2 < (a0.size : Int)
            · rw [if_pos c10] at H
              have c10b0 : decide (x3_2 < (a0.size : Int)) = true := decide_eq_true c10
              clear c10
              by_cases c11 : 0 ≤ x3_2
              · rw [if_pos c11] at H
                have c11b0 : decide (0 ≤ x3_2) = true := decide_eq_true c11
                clear c11
                by_cases c13 : (bt a0 x3_2) = 95
                · rw [if_pos c13] at H
                  have c13b0 : ((bt a0 x3_2) == 95) = true := beq_iff_eq.mpr c13
                  have c13b1 : ((bt a0 x3_2) != 95) = false := bne_eq_false_iff_eq.mpr c13
                  clear c13
                  have H' := Aside0.mk H
                  clear H
                  have p12 : 0 ≤ (x3_2 : Int) := of_decide_eq_true (by first | (with_reducible assumption) | assumption)
                  have q12 : x3_2 < (a0.size : Int) := of_decide_eq_true (by first | (with_reducible assumption) | assumption)
                  have hx12 := bt_at a0 x3_2
                  replace p12 := eq_true p12
                  replace q12 := eq_true q12
                  go_wp2
                  go_roundg k2
                  case measure => have := HJ1.out; have := HK2.out; omega
                  case rel => exact ⟨(wrap64 (x3_2 + 1)), (by first | rfl | (simp; done) | (simp [*]; done)), H', ⟨by have := HJ1.out; have := HK2.out; omega⟩, by repeat (first | exact Drawn0.refl _ | apply Drawn0.step)⟩
                · rw [if_neg c13] at H
                  have c13b0 : ((bt a0 x3_2) == 95) = false := beq_eq_false_iff_ne.mpr c13
                  have c13b1 : ((bt a0 x3_2) != 95) = true := bne_iff_ne.mpr c13
                  by_cases c14 : (bt a0 x3_2) ≥ 48
                  · rw [if_pos c14] at H
                    have c14b0 : decide (48 ≤ (bt a0 x3_2)) = true := decide_eq_true c14
                    clear c14
                    by_cases c15 : ((bt a0 x3_2) ≤ 57)
                    · rw [if_pos c15] at H
                      have c15b0 : decide ((bt a0 x3_2) ≤ 57) = true := decide_eq_true c15
                      clear c15
                      have H' := Aside0.mk H
                      clear H
                      have p12 : 0 ≤ (x3_2 : Int) := of_decide_eq_true (by first | (with_reducible assumption) | assumption)
                      have q12 : x3_2 < (a0.size : Int) := of_decide_eq_true (by first | (with_reducible assumption) | assumption)
                      have hx12 := bt_at a0 x3_2
                      replace p12 := eq_true p12
                      replace q12 := eq_true q12
                      go_wp2
                      go_roundg k2
                      case measure => have := HJ1.out; have := HK2.out; omega
                      case rel => exact ⟨(wrap64 (x3_2 + 1)), (by first | rfl | (simp; done) | (simp [*]; done)), H', ⟨by have := HJ1.out; have := HK2.out; omega⟩, by repeat (first | exact Drawn0.refl _ | apply Drawn0.step)⟩
                    · rw [if_neg c15] at H
                      have c15b0 : decide ((bt a0 x3_2) ≤ 57) = false := decide_eq_false c15
                      clear c15
                      by_cases c16 : (bt a0 x3_2) ≥ 97
                      · rw [if_pos c16] at H
                        have c16b0 : decide (97 ≤ (bt a0 x3_2)) = true := decide_eq_true c16
                        clear c16
                        by_cases c17 : ((bt a0 x3_2) ≤ 122)
                        · rw [if_pos c17] at H
                          have c17b0 : decide ((bt a0 x3_2) ≤ 122) = true := decide_eq_true c17
                          clear c17
                          have H' := Aside0.mk H
                          clear H
                          have p12 : 0 ≤ (x3_2 : Int) := of_decide_eq_true (by first | (with_reducible assumption) | assumption)
                          have q12 : x3_2 < (a0.size : Int) := of_decide_eq_true (by first | (with_reducible assumption) | assumption)
                          have hx12 := bt_at a0 x3_2
                          replace p12 := eq_true p12
                          replace q12 := eq_true q12
                          go_wp2
                          go_roundg k2
                          case measure => have := HJ1.out; have := HK2.out; omega
                          case rel => exact ⟨(wrap64 (x3_2 + 1)), (by first | rfl | (simp; done) | (simp [*]; done)), H', ⟨by have := HJ1.out; have := HK2.out; omega⟩, by repeat (first | exact Drawn0.refl _ | apply Drawn0.step)⟩
                        · rw [if_neg c17] at H
                          have c17b0 : decide ((bt a0 x3_2) ≤ 122) = false := decide_eq_false c17
                          clear c17
                          by_cases c18 : (bt a0 x3_2) ≥ 65
                          · rw [if_pos c18] at H
                            have c18b0 : decide (65 ≤ (bt a0 x3_2)) = true := decide_eq_true c18
                            clear c18
                            by_cases c19 : ((bt a0 x3_2) ≤ 90)
                            · rw [if_pos c19] at H
                              have c19b0 : decide ((bt a0 x3_2) ≤ 90) = true := decide_eq_true c19
                              clear c19
                              have H' := Aside0.mk H
                              clear H
                              have p12 : 0 ≤ (x3_2 : Int) := of_decide_eq_true (by first | (with_reducible assumption) | assumption)
                              have q12 : x3_2 < (a0.size : Int) := of_decide_eq_true (by first | (with_reducible assumption) | assumption)
                              have hx12 := bt_at a0 x3_2
                              replace p12 := eq_true p12
                              replace q12 := eq_true q12
                              go_wp2
                              go_roundg k2
                              case measure => have := HJ1.out; have := HK2.out; omega
                              case rel => exact ⟨(wrap64 (x3_2 + 1)), (by first | rfl | (simp; done) | (simp [*]; done)), H', ⟨by have := HJ1.out; have := HK2.out; omega⟩, by repeat (first | exact Drawn0.refl _ | apply Drawn0.step)⟩
                            · rw [if_neg c19] at H
                              have c19b0 : decide ((bt a0 x3_2) ≤ 90) = false := decide_eq_false c19
                              clear c19
                              obtain rfl := Option.some.inj H
                              have p12 : 0 ≤ (x3_2 : Int) := of_decide_eq_true (by first | (with_reducible assumption) | assumption)
                              have q12 : x3_2 < (a0.size : Int) := of_decide_eq_true (by first | (with_reducible assumption) | assumption)
                              have hx12 := bt_at a0 x3_2
                              replace p12 := eq_true p12
                              replace q12 := eq_true q12
                              go_wp2
                              go_ret
                              exact ⟨by first | rfl | (simp; done) | (simp [*]; done), by repeat (first | exact Drawn0.refl _ | apply Drawn0.step)⟩
                          · rw [if_neg c18] at H
                            have c18b0 : decide (65 ≤ (bt a0 x3_2)) = false := decide_eq_false c18
                            clear c18
                            obtain rfl := Option.some.inj H
                            have p12 : 0 ≤ (x3_2 : Int) := of_decide_eq_true (by first | (with_reducible assumption) | assumption)
                            have q12 : x3_2 < (a0.size : Int) := of_decide_eq_true (by first | (with_reducible assumption) | assumption)
                            have hx12 := bt_at a0 x3_2
                            replace p12 := eq_true p12
                            replace q12 := eq_true q12
                            go_wp2
                            go_ret
                            exact ⟨by first | rfl | (simp; done) | (simp [*]; done), by repeat (first | exact Drawn0.refl _ | apply Drawn0.step)⟩
                      · rw [if_neg c16] at H
                        have c16b0 : decide (97 ≤ (bt a0 x3_2)) = false := decide_eq_false c16
                        clear c16
                        by_cases c20 : (bt a0 x3_2) ≥ 65
                        · rw [if_pos c20] at H
                          have c20b0 : decide (65 ≤ (bt a0 x3_2)) = true := decide_eq_true c20
                          clear c20
                          by_cases c21 : ((bt a0 x3_2) ≤ 90)
                          · rw [if_pos c21] at H
                            have c21b0 : decide ((bt a0 x3_2) ≤ 90) = true := decide_eq_true c21
                            clear c21
                            have H' := Aside0.mk H
                            clear H
                            have p12 : 0 ≤ (x3_2 : Int) := of_decide_eq_true (by first | (with_reducible assumption) | assumption)
                            have q12 : x3_2 < (a0.size : Int) := of_decide_eq_true (by first | (with_reducible assumption) | assumption)
                            have hx12 := bt_at a0 x3_2
                            replace p12 := eq_true p12
                            replace q12 := eq_true q12
                            go_wp2
                            go_roundg k2
                            case measure => have := HJ1.out; have := HK2.out; omega
                            case rel => exact ⟨(wrap64 (x3_2 + 1)), (by first | rfl | (simp; done) | (simp [*]; done)), H', ⟨by have := HJ1.out; have := HK2.out; omega⟩, by repeat (first | exact Drawn0.refl _ | apply Drawn0.step)⟩
                          · rw [if_neg c21] at H
                            have c21b0 : decide ((bt a0 x3_2) ≤ 90) = false := decide_eq_false c21
                            clear c21
                            obtain rfl := Option.some.inj H
                            have p12 : 0 ≤ (x3_2 : Int) := of_decide_eq_true (by first | (with_reducible assumption) | assumption)
                            have q12 : x3_2 < (a0.size : Int) := of_decide_eq_true (by first | (with_reducible assumption) | assumption)
                            have hx12 := bt_at a0 x3_2
                            replace p12 := eq_true p12
                            replace q12 := eq_true q12
                            go_wp2
                            go_ret
                            exact ⟨by first | rfl | (simp; done) | (simp [*]; done), by repeat (first | exact Drawn0.refl _ | apply Drawn0.step)⟩
                        · rw [if_neg c20] at H
                          have c20b0 : decide (65 ≤ (bt a0 x3_2)) = false := decide_eq_false c20
                          clear c20
                          obtain rfl := Option.some.inj H
                          have p12 : 0 ≤ (x3_2 : Int) := of_decide_eq_true (by first | (with_reducible assumption) | assumption)
                          have q12 : x3_2 < (a0.size : Int) := of_decide_eq_true (by first | (with_reducible assumption) | assumption)
                          have hx12 := bt_at a0 x3_2
                          replace p12 := eq_true p12
                          replace q12 := eq_true q12
                          go_wp2
                          go_ret
                          exact ⟨by first | rfl | (simp; done) | (simp [*]; done), by repeat (first | exact Drawn0.refl _ | apply Drawn0.step)⟩
                  · rw [if_neg c14] at H
                    have c14b0 : decide (48 ≤ (bt a0 x3_2)) = false := decide_eq_false c14
                    clear c14
                    by_cases c22 : (bt a0 x3_2) ≥ 97
                    · rw [if_pos c22] at H
                      have c22b0 : decide (97 ≤ (bt a0 x3_2)) = true := decide_eq_true c22
                      clear c22
                      by_cases c23 : ((bt a0 x3_2) ≤ 122)
                      · rw [if_pos c23] at H
                        have c23b0 : decide ((bt a0 x3_2) ≤ 122) = true := decide_eq_true c23
                        clear c23
                        have H' := Aside0.mk H
                        clear H
                        have p12 : 0 ≤ (x3_2 : Int) := of_decide_eq_true (by first | (with_reducible assumption) | assumption)
                        have q12 : x3_2 < (a0.size : Int) := of_decide_eq_true (by first | (with_reducible assumption) | assumption)
                        have hx12 := bt_at a0 x3_2
                        replace p12 := eq_true p12
                        replace q12 := eq_true q12
                        go_wp2
                        go_roundg k2
                        case measure => have := HJ1.out; have := HK2.out; omega
                        case rel => exact ⟨(wrap64 (x3_2 + 1)), (by first | rfl | (simp; done) | (simp [*]; done)), H', ⟨by have := HJ1.out; have := HK2.out; omega⟩, by repeat (first | exact Drawn0.refl _ | apply Drawn0.step)⟩
                      · rw [if_neg c23] at H
                        have c23b0 : decide ((bt a0 x3_2) ≤ 122) = false := decide_eq_false c23
                        clear c23
                        by_cases c24 : (bt a0 x3_2) ≥ 65
                        · rw [if_pos c24] at H
                          have c24b0 : decide (65 ≤ (bt a0 x3_2)) = true := decide_eq_true c24
                          clear c24
                          by_cases c25 : ((bt a0 x3_2) ≤ 90)
                          · rw [if_pos c25] at H
                            have c25b0 : decide ((bt a0 x3_2) ≤ 90) = true := decide_eq_true c25
                            clear c25
                            have H' := Aside0.mk H
                            clear H
                            have p12 : 0 ≤ (x3_2 : Int) := of_decide_eq_true (by first | (with_reducible assumption) | assumption)
                            have q12 : x3_2 < (a0.size : Int) := of_decide_eq_true (by first | (with_reducible assumption) | assumption)
                            have hx12 := bt_at a0 x3_2
                            replace p12 := eq_true p12
                            replace q12 := eq_true q12
                            go_wp2
                            go_roundg k2
                            case measure => have := HJ1.out; have := HK2.out; omega
                            case rel => exact ⟨(wrap64 (x3_2 + 1)), (by first | rfl | (simp; done) | (simp [*]; done)), H', ⟨by have := HJ1.out; have := HK2.out; omega⟩, by repeat (first | exact Drawn0.refl _ | apply Drawn0.step)⟩
                          · rw [if_neg c25] at H
                            have c25b0 : decide ((bt a0 x3_2) ≤ 90) = false := decide_eq_false c25
                            clear c25
                            obtain rfl := Option.some.inj H
                            have p12 : 0 ≤ (x3_2 : Int) := of_decide_eq_true (by first | (with_reducible assumption) | assumption)
                            have q12 : x3_2 < (a0.size : Int) := of_decide_eq_true (by first | (with_reducible assumption) | assumption)
                            have hx12 := bt_at a0 x3_2
                            replace p12 := eq_true p12
                            replace q12 := eq_true q12
                            go_wp2
                            go_ret
                            exact ⟨by first | rfl | (simp; done) | (simp [*]; done), by repeat (first | exact Drawn0.refl _ | apply Drawn0.step)⟩
                        · rw [if_neg c24] at H
                          have c24b0 : decide (65 ≤ (bt a0 x3_2)) = false := decide_eq_false c24
                          clear c24
                          obtain rfl := Option.some.inj H
                          have p12 : 0 ≤ (x3_2 : Int) := of_decide_eq_true (by first | (with_reducible assumption) | assumption)
                          have q12 : x3_2 < (a0.size : Int) := of_decide_eq_true (by first | (with_reducible assumption) | assumption)
                          have hx12 := bt_at a0 x3_2
                          replace p12 := eq_true p12
                          replace q12 := eq_true q12
                          go_wp2
                          go_ret
                          exact ⟨by first | rfl | (simp; done) | (simp [*]; done), by repeat (first | exact Drawn0.refl _ | apply Drawn0.step)⟩
                    · rw [if_neg c22] at H
                      have c22b0 : decide (97 ≤ (bt a0 x3_2)) = false := decide_eq_false c22
                      clear c22
                      by_cases c26 : (bt a0 x3_2) ≥ 65
                      · rw [if_pos c26] at H
                        have c26b0 : decide (65 ≤ (bt a0 x3_2)) = true := decide_eq_true c26
                        clear c26
                        by_cases c27 : ((bt a0 x3_2) ≤ 90)
                        · rw [if_pos c27] at H
                          have c27b0 : decide ((bt a0 x3_2) ≤ 90) = true := decide_eq_true c27
                          clear c27
                          have H' := Aside0.mk H
                          clear H
                          have p12 : 0 ≤ (x3_2 : Int) := of_decide_eq_true (by first | (with_reducible assumption) | assumption)
                          have q12 : x3_2 < (a0.size : Int) := of_decide_eq_true (by first | (with_reducible assumption) | assumption)
                          have hx12 := bt_at a0 x3_2
                          replace p12 := eq_true p12
                          replace q12 := eq_true q12
                          go_wp2
                          go_roundg k2
                          case measure => have := HJ1.out; have := HK2.out; omega
                          case rel => exact ⟨(wrap64 (x3_2 + 1)), (by first | rfl | (simp; done) | (simp [*]; done)), H', ⟨by have := HJ1.out; have := HK2.out; omega⟩, by repeat (first | exact Drawn0.refl _ | apply Drawn0.step)⟩
                        · rw [if_neg c27] at H
                          have c27b0 : decide ((bt a0 x3_2) ≤ 90) = false := decide_eq_false c27
                          clear c27
                          obtain rfl := Option.some.inj H
                          have p12 : 0 ≤ (x3_2 : Int) := of_decide_eq_true (by first | (with_reducible assumption) | assumption)
                          have q12 : x3_2 < (a0.size : Int) := of_decide_eq_true (by first | (with_reducible assumption) | assumption)
                          have hx12 := bt_at a0 x3_2
                          replace p12 := eq_true p12
                          replace q12 := eq_true q12
                          go_wp2
                          go_ret
                          exact ⟨by first | rfl | (simp; done) | (simp [*]; done), by repeat (first | exact Drawn0.refl _ | apply Drawn0.step)⟩
                      · rw [if_neg c26] at H
                        have c26b0 : decide (65 ≤ (bt a0 x3_2)) = false := decide_eq_false c26
                        clear c26
                        obtain rfl := Option.some.inj H
                        have p12 : 0 ≤ (x3_2 : Int) := of_decide_eq_true (by first | (with_reducible assumption) | assumption)
                        have q12 : x3_2 < (a0.size : Int) := of_decide_eq_true (by first | (with_reducible assumption) | assumption)
                        have hx12 := bt_at a0 x3_2
                        replace p12 := eq_true p12
                        replace q12 := eq_true q12
                        go_wp2
                        go_ret
                        exact ⟨by first | rfl | (simp; done) | (simp [*]; done), by repeat (first | exact Drawn0.refl _ | apply Drawn0.step)⟩
              · rw [if_neg c11] at H
                exact absurd H (by simp)
            · rw [if_neg c10] at H
              have c10b0 : decide (x3_2 < (a0.size : Int)) = false := decide_eq_false c10
              clear c10
              obtain rfl := Option.some.inj H
              go_wp2
              go_ret
              exact ⟨by first | rfl | (simp; done) | (simp [*]; done), by repeat (first | exact Drawn0.refl _ | apply Drawn0.step)⟩
mutual
def magpieref04_Good.j0 : Nat → Bool → Int → List (S47) → ByteArray → Option (Bool)
  | 0, _, _, _, _ => none
  | k + 1, x25, x183000, x183001, x183002 => if x25 = true then (some false) else (magpieref04_Good.l0 k x183001 (x183001.length : Int) 0 x183000 x183001 x183002)
def magpieref04_Good.l0 : Nat → List (S47) → Int → Int → Int → List (S47) → ByteArray → Option (Bool)
  | 0, _, _, _, _, _, _ => none
  | k + 1, x27, x28, x29, x183000, x183001, x183002 => if x29 < x28 then (if 0 ≤ x29 then (if x29 < (x27.length : Int) then ((magpieref04_Name.f k ((rd_T47 x27 x29).f0)).bind fun t185 => (if t185 = true then (if (((rd_T47 x27 x29).f1).size : Int) > 20 then (some false) else (if x29 > 0 then (if 0 ≤ (wrap64 (x29 - 1)) then (if (wrap64 (x29 - 1)) < (x183001.length : Int) then (if ((Op.bytesLess (((rd_T47 x183001 (wrap64 (x29 - 1))).f0).toList) (((rd_T47 x27 x29).f0).toList)) = true) then (magpieref04_Good.l0 k x27 x28 (wrap64 (x29 + 1)) x183000 x183001 x183002) else (some false)) else (none)) else (none)) else (magpieref04_Good.l0 k x27 x28 (wrap64 (x29 + 1)) x183000 x183001 x183002))) else (some false))) else (none)) else (none)) else (magpieref04_Good.l1 k 0 x183000 x183001 x183002)
def magpieref04_Good.l1 : Nat → Int → Int → List (S47) → ByteArray → Option (Bool)
  | 0, _, _, _, _ => none
  | k + 1, x5, x183000, x183001, x183002 => if x5 < (x183002.size : Int) then (if 0 ≤ x5 then (if (bt x183002 x5) = 10 then (some false) else (magpieref04_Good.l1 k (wrap64 (x5 + 1)) x183000 x183001 x183002)) else (none)) else (some true)
end
def magpieref04_Good.f (k : Nat) (a0_0 : Int) (l0_1 : List (S47)) (a0_2 : ByteArray) : Option (Bool) := if a0_0 > 1099511627776 then (magpieref04_Good.j0 k true a0_0 l0_1 a0_2) else (if a0_0 < (-1099511627776) then (magpieref04_Good.j0 k true a0_0 l0_1 a0_2) else (if (l0_1.length : Int) > 4 then (magpieref04_Good.j0 k true a0_0 l0_1 a0_2) else (magpieref04_Good.j0 k (decide ((a0_2.size : Int) > 200)) a0_0 l0_1 a0_2)))
theorem magpieref04_Good.mono_l : ∀ k, (∀ y0 y1 y2 y3, LeO (magpieref04_Good.j0 k y0 y1 y2 y3) (magpieref04_Good.j0 (k + 1) y0 y1 y2 y3)) ∧ (∀ y0 y1 y2 y3 y4 y5, LeO (magpieref04_Good.l0 k y0 y1 y2 y3 y4 y5) (magpieref04_Good.l0 (k + 1) y0 y1 y2 y3 y4 y5)) ∧ (∀ y0 y1 y2 y3, LeO (magpieref04_Good.l1 k y0 y1 y2 y3) (magpieref04_Good.l1 (k + 1) y0 y1 y2 y3))
  | 0 => ⟨fun _ _ _ _ r h => by simp [magpieref04_Good.j0] at h, fun _ _ _ _ _ _ r h => by simp [magpieref04_Good.l0] at h, fun _ _ _ _ r h => by simp [magpieref04_Good.l1] at h⟩
  | k + 1 => by
    obtain ⟨ih0, ih1, ih2⟩ := magpieref04_Good.mono_l k
    refine ⟨?_, ?_, ?_⟩
    · intro y0 y1 y2 y3
      unfold magpieref04_Good.j0
      repeat' first
      | (with_reducible exact ih0 _ _ _ _)
      | (with_reducible exact ih1 _ _ _ _ _ _)
      | (with_reducible exact ih2 _ _ _ _)
      | (with_reducible exact magpieref04_Name.mono _ _)
      | (with_reducible exact LeO.refl _)
      | (with_reducible exact LeO.none _)
      | (with_reducible refine LeO.ite ?_ ?_)
      | (with_reducible refine LeO.bind ?_ (fun _ => ?_))
      | exact ih0 _ _ _ _
      | exact ih1 _ _ _ _ _ _
      | exact ih2 _ _ _ _
      | exact magpieref04_Name.mono _ _
      | exact LeO.none _
      | refine LeO.ite ?_ ?_
      | refine LeO.bind ?_ (fun _ => ?_)
    · intro y0 y1 y2 y3 y4 y5
      unfold magpieref04_Good.l0
      repeat' first
      | (with_reducible exact ih0 _ _ _ _)
      | (with_reducible exact ih1 _ _ _ _ _ _)
      | (with_reducible exact ih2 _ _ _ _)
      | (with_reducible exact magpieref04_Name.mono _ _)
      | (with_reducible exact LeO.refl _)
      | (with_reducible exact LeO.none _)
      | (with_reducible refine LeO.ite ?_ ?_)
      | (with_reducible refine LeO.bind ?_ (fun _ => ?_))
      | exact ih0 _ _ _ _
      | exact ih1 _ _ _ _ _ _
      | exact ih2 _ _ _ _
      | exact magpieref04_Name.mono _ _
      | exact LeO.none _
      | refine LeO.ite ?_ ?_
      | refine LeO.bind ?_ (fun _ => ?_)
    · intro y0 y1 y2 y3
      unfold magpieref04_Good.l1
      repeat' first
      | (with_reducible exact ih0 _ _ _ _)
      | (with_reducible exact ih1 _ _ _ _ _ _)
      | (with_reducible exact ih2 _ _ _ _)
      | (with_reducible exact magpieref04_Name.mono _ _)
      | (with_reducible exact LeO.refl _)
      | (with_reducible exact LeO.none _)
      | (with_reducible refine LeO.ite ?_ ?_)
      | (with_reducible refine LeO.bind ?_ (fun _ => ?_))
      | exact ih0 _ _ _ _
      | exact ih1 _ _ _ _ _ _
      | exact ih2 _ _ _ _
      | exact magpieref04_Name.mono _ _
      | exact LeO.none _
      | refine LeO.ite ?_ ?_
      | refine LeO.bind ?_ (fun _ => ?_)
theorem magpieref04_Good.mono : ∀ a0 a1 a2 k, LeO (magpieref04_Good.f k a0 a1 a2) (magpieref04_Good.f (k + 1) a0 a1 a2) := by
  intro a0 a1 a2 k
  obtain ⟨ih0, ih1, ih2⟩ := magpieref04_Good.mono_l k
  unfold magpieref04_Good.f
  repeat' first
      | (with_reducible exact ih0 _ _ _ _)
      | (with_reducible exact ih1 _ _ _ _ _ _)
      | (with_reducible exact ih2 _ _ _ _)
      | (with_reducible exact magpieref04_Name.mono _ _)
      | (with_reducible exact LeO.refl _)
      | (with_reducible exact LeO.none _)
      | (with_reducible refine LeO.ite ?_ ?_)
      | (with_reducible refine LeO.bind ?_ (fun _ => ?_))
      | exact ih0 _ _ _ _
      | exact ih1 _ _ _ _ _ _
      | exact ih2 _ _ _ _
      | exact magpieref04_Name.mono _ _
      | exact LeO.none _
      | refine LeO.ite ?_ ?_
      | refine LeO.bind ?_ (fun _ => ?_)
set_option maxHeartbeats 8000000 in
set_option maxRecDepth 100000 in
theorem magpieref04_Good.calls (k : Nat) (a0_0 : Int) (A0_1 : Option Addr) (c0_1 : Nat) (l0_1 : List (S47)) (a0_2 : ByteArray) (r : Bool) (w : World) (hr0_1 : Kd.C k47 w A0_1 l0_1.length l0_1) (hc0_1 : l0_1.length ≤ c0_1) (h : magpieref04_Good.f k a0_0 l0_1 a0_2 = some r) :
    Calls Try.prog 33 #[.agg #[.int .i64 a0_0, .slice A0_1 l0_1.length c0_1, .string a0_2]] w fun e w' => e = .returned (.bool r) ∧ Below w.heap.size w w' := by
  have hu34 := Try.underlying34
  have hu47 := Try.underlying47
  have HR0_1 := Aside0.mk hr0_1
  have HC0_1 := Aside0.mk hc0_1
  clear hr0_1 hc0_1
  have HB := Aside0.mk (Below.refl w.heap.size w)
  have H : (if a0_0 > 1099511627776 then (magpieref04_Good.j0 k true a0_0 l0_1 a0_2) else (if a0_0 < (-1099511627776) then (magpieref04_Good.j0 k true a0_0 l0_1 a0_2) else (if (l0_1.length : Int) > 4 then (magpieref04_Good.j0 k true a0_0 l0_1 a0_2) else (magpieref04_Good.j0 k (decide ((a0_2.size : Int) > 200)) a0_0 l0_1 a0_2)))) = some r := h
  clear h
  have HC2 := Aside0.mk H
  clear H
  go_enter Try.func33, Try.ntmps33
  go_upto_region 1 with (first | ((with_reducible refine gate_dst (N := 1) rfl ?_); (try (refine gate_guard (by rfl) ?_; dsimp only)); refine box_event ?hg (N := 1) ?hd (cs := #[.int .i64 a0_0, .slice A0_1 l0_1.length c0_1, .string a0_2]) (t := 34) ?hr ?_; (case hd => rfl); (case hg => rfl); (case hr => first | (go_simp; done) | (go_simp; rfl)); intro gb182 hg w3 hbox hb; have n0_ := Aside0.mk (below_step (by repeat (first | (with_reducible first | exact HB.out | apply below_alloc | apply pw_below_drewN | apply below_drew1) | exact HB.out)) hb); have n1_ := Aside0.mk (hbox); have n2_ := Aside0.mk ((by rw [hg]; exact (below_size (by repeat (first | (with_reducible first | exact HB.out | apply below_alloc | apply pw_below_drewN | apply below_drew1) | exact HB.out))) : w.heap.size ≤ gb182)); have n3_ := Aside0.mk ((by rw [hg]; exact (below_size (by repeat (first | (with_reducible first | exact HB.out | apply below_alloc | apply pw_below_drewN | apply below_drew1) | exact HB.out))) : w.heap.size ≤ gb182)); clear HB; have HB := n0_; have BK182 := n1_; have GW182 := n2_; have GE182 := n3_; clear n0_ n1_ n2_ n3_; clear hb hbox hg))
  repeat (go_quiet (first | ((with_reducible refine gate_dst (N := 1) rfl ?_); (try (refine gate_guard (by rfl) ?_; dsimp only)); refine box_event ?hg (N := 1) ?hd (cs := #[.int .i64 a0_0, .slice A0_1 l0_1.length c0_1, .string a0_2]) (t := 34) ?hr ?_; (case hd => rfl); (case hg => rfl); (case hr => first | (go_simp; done) | (go_simp; rfl)); intro gb182 hg w3 hbox hb; have n0_ := Aside0.mk (below_step (by repeat (first | (with_reducible first | exact HB.out | apply below_alloc | apply pw_below_drewN | apply below_drew1) | exact HB.out)) hb); have n1_ := Aside0.mk (hbox); have n2_ := Aside0.mk ((by rw [hg]; exact (below_size (by repeat (first | (with_reducible first | exact HB.out | apply below_alloc | apply pw_below_drewN | apply below_drew1) | exact HB.out))) : w.heap.size ≤ gb182)); have n3_ := Aside0.mk ((by rw [hg]; exact (below_size (by repeat (first | (with_reducible first | exact HB.out | apply below_alloc | apply pw_below_drewN | apply below_drew1) | exact HB.out))) : w.heap.size ≤ gb182)); clear HB; have HB := n0_; have BK182 := n1_; have GW182 := n2_; have GE182 := n3_; clear n0_ n1_ n2_ n3_; clear hb hbox hg)); go_upto_region 1 with (first | ((with_reducible refine gate_dst (N := 1) rfl ?_); (try (refine gate_guard (by rfl) ?_; dsimp only)); refine box_event ?hg (N := 1) ?hd (cs := #[.int .i64 a0_0, .slice A0_1 l0_1.length c0_1, .string a0_2]) (t := 34) ?hr ?_; (case hd => rfl); (case hg => rfl); (case hr => first | (go_simp; done) | (go_simp; rfl)); intro gb182 hg w3 hbox hb; have n0_ := Aside0.mk (below_step (by repeat (first | (with_reducible first | exact HB.out | apply below_alloc | apply pw_below_drewN | apply below_drew1) | exact HB.out)) hb); have n1_ := Aside0.mk (hbox); have n2_ := Aside0.mk ((by rw [hg]; exact (below_size (by repeat (first | (with_reducible first | exact HB.out | apply below_alloc | apply pw_below_drewN | apply below_drew1) | exact HB.out))) : w.heap.size ≤ gb182)); have n3_ := Aside0.mk ((by rw [hg]; exact (below_size (by repeat (first | (with_reducible first | exact HB.out | apply below_alloc | apply pw_below_drewN | apply below_drew1) | exact HB.out))) : w.heap.size ≤ gb182)); clear HB; have HB := n0_; have BK182 := n1_; have GW182 := n2_; have GE182 := n3_; clear n0_ n1_ n2_ n3_; clear hb hbox hg)))
  (try simp only [Act.put, List.setIfInBounds_toArray, List.set_cons_zero, List.set_cons_succ])
  go_cut [25] (fun v25 wc => ∃ (kq : Nat) (x25_1 : Bool), v25 = .bool x25_1 ∧ Aside0 (magpieref04_Good.j0 kq x25_1 a0_0 l0_1 a0_2 = some r) ∧ Aside0 (kq ≤ k) ∧ Aside0 (wc.heap[gb182]? = some (.cells #[.int .i64 a0_0, (.slice A0_1 l0_1.length c0_1), .string a0_2] 34 (0, 0))) ∧ Aside0 (Below w.heap.size w wc))
  case first =>
    have H := HC2.out
    clear HC2
    by_cases c4 : a0_0 > 1099511627776
    · rw [if_pos c4] at H
      have c4b0 : decide (1099511627776 < a0_0) = true := decide_eq_true c4
      clear c4
      (first | rw [c4b0] | (simp only [i64_w, i32_w]; rw [c4b0]) | skip)
      have H' := Aside0.mk H
      clear H
      have hcz5_0 : w3.cell? ⟨gb182, 0, none⟩ = some (.int .i64 a0_0) := (blk_cell BK182.out 0).trans rfl
      have hcz5_1 : w3.cell? ⟨gb182, 1, none⟩ = some (.slice A0_1 l0_1.length c0_1) := (blk_cell BK182.out 1).trans rfl
      have hcz5_2 : w3.cell? ⟨gb182, 2, none⟩ = some (.string a0_2) := (blk_cell BK182.out 2).trans rfl
      have hfz5_0 := blk_frozen BK182.out 0
      have hfz5_1 := blk_frozen BK182.out 1
      have hfz5_2 := blk_frozen BK182.out 2
      go_wp2
      repeat (go_quiet (fail); try go_wp2)
      go_meet
      case rel => exact ⟨_, (true), (by first | rfl | (simp; done) | (simp [*]; done)), H', ⟨by first | omega | exact Nat.le_refl _⟩, ⟨by (with_reducible repeat (first | refine blk_drewN ?_ _ | refine blk_drew ?_ | refine blk_alloc ?_ _)); exact BK182.out⟩, ⟨by repeat (first | (with_reducible first | exact HB.out | apply below_alloc | apply pw_below_drewN | apply below_drew1 | refine below_set ?_ GE182.out) | exact HB.out)⟩⟩
    · rw [if_neg c4] at H
      have c4b0 : decide (1099511627776 < a0_0) = false := decide_eq_false c4
      clear c4
      (first | rw [c4b0] | (simp only [i64_w, i32_w]; rw [c4b0]) | skip)
      by_cases c6 : a0_0 < (-1099511627776)
      · rw [if_pos c6] at H
        have c6b0 : decide (a0_0 < (-1099511627776)) = true := decide_eq_true c6
        clear c6
        have H' := Aside0.mk H
        clear H
        have hcz7_0 : w3.cell? ⟨gb182, 0, none⟩ = some (.int .i64 a0_0) := (blk_cell BK182.out 0).trans rfl
        have hcz7_1 : w3.cell? ⟨gb182, 1, none⟩ = some (.slice A0_1 l0_1.length c0_1) := (blk_cell BK182.out 1).trans rfl
        have hcz7_2 : w3.cell? ⟨gb182, 2, none⟩ = some (.string a0_2) := (blk_cell BK182.out 2).trans rfl
        have hfz7_0 := blk_frozen BK182.out 0
        have hfz7_1 := blk_frozen BK182.out 1
        have hfz7_2 := blk_frozen BK182.out 2
        go_wp2
        repeat (go_quiet (fail); try go_wp2)
        go_meet
        case rel => exact ⟨_, (true), (by first | rfl | (simp; done) | (simp [*]; done)), H', ⟨by first | omega | exact Nat.le_refl _⟩, ⟨by (with_reducible repeat (first | refine blk_drewN ?_ _ | refine blk_drew ?_ | refine blk_alloc ?_ _)); exact BK182.out⟩, ⟨by repeat (first | (with_reducible first | exact HB.out | apply below_alloc | apply pw_below_drewN | apply below_drew1 | refine below_set ?_ GE182.out) | exact HB.out)⟩⟩
      · rw [if_neg c6] at H
        have c6b0 : decide (a0_0 < (-1099511627776)) = false := decide_eq_false c6
        clear c6
        by_cases c8 : (l0_1.length : Int) > 4
        · rw [if_pos c8] at H
          have c8b0 : decide (4 < (l0_1.length : Int)) = true := decide_eq_true c8
          have c8b1 : decide (4 < l0_1.length) = true := decide_eq_true (by omega)
          clear c8
          have H' := Aside0.mk H
          clear H
          have hcz9_0 : w3.cell? ⟨gb182, 0, none⟩ = some (.int .i64 a0_0) := (blk_cell BK182.out 0).trans rfl
          have hcz9_1 : w3.cell? ⟨gb182, 1, none⟩ = some (.slice A0_1 l0_1.length c0_1) := (blk_cell BK182.out 1).trans rfl
          have hcz9_2 : w3.cell? ⟨gb182, 2, none⟩ = some (.string a0_2) := (blk_cell BK182.out 2).trans rfl
          have hfz9_0 := blk_frozen BK182.out 0
          have hfz9_1 := blk_frozen BK182.out 1
          have hfz9_2 := blk_frozen BK182.out 2
          go_wp2
          repeat (go_quiet (fail); try go_wp2)
          go_meet
          case rel => exact ⟨_, (true), (by first | rfl | (simp; done) | (simp [*]; done)), H', ⟨by first | omega | exact Nat.le_refl _⟩, ⟨by (with_reducible repeat (first | refine blk_drewN ?_ _ | refine blk_drew ?_ | refine blk_alloc ?_ _)); exact BK182.out⟩, ⟨by repeat (first | (with_reducible first | exact HB.out | apply below_alloc | apply pw_below_drewN | apply below_drew1 | refine below_set ?_ GE182.out) | exact HB.out)⟩⟩
        · rw [if_neg c8] at H
          have c8b0 : decide (4 < (l0_1.length : Int)) = false := decide_eq_false c8
          have c8b1 : decide (4 < l0_1.length) = false := decide_eq_false (by omega)
          clear c8
          have H' := Aside0.mk H
          clear H
          have hcz10_0 : w3.cell? ⟨gb182, 0, none⟩ = some (.int .i64 a0_0) := (blk_cell BK182.out 0).trans rfl
          have hcz10_1 : w3.cell? ⟨gb182, 1, none⟩ = some (.slice A0_1 l0_1.length c0_1) := (blk_cell BK182.out 1).trans rfl
          have hcz10_2 : w3.cell? ⟨gb182, 2, none⟩ = some (.string a0_2) := (blk_cell BK182.out 2).trans rfl
          have hfz10_0 := blk_frozen BK182.out 0
          have hfz10_1 := blk_frozen BK182.out 1
          have hfz10_2 := blk_frozen BK182.out 2
          go_wp2
          repeat (go_quiet (fail); try go_wp2)
          go_meet
          case rel => exact ⟨_, (decide ((a0_2.size : Int) > 200)), (by first | rfl | (simp; done) | (simp [*]; done)), H', ⟨by first | omega | exact Nat.le_refl _⟩, ⟨by (with_reducible repeat (first | refine blk_drewN ?_ _ | refine blk_drew ?_ | refine blk_alloc ?_ _)); exact BK182.out⟩, ⟨by repeat (first | (with_reducible first | exact HB.out | apply below_alloc | apply pw_below_drewN | apply below_drew1 | refine below_set ?_ GE182.out) | exact HB.out)⟩⟩
  case rest =>
    clear HC2
    try clear p2
    try clear c3
    try clear c4
    try clear c4b0
    try clear c6
    try clear c6b0
    try clear c8
    try clear c8b0
    try clear c8b1
    try clear hcz10_0
    try clear hcz10_1
    try clear hcz10_2
    try clear hcz5_0
    try clear hcz5_1
    try clear hcz5_2
    try clear hcz7_0
    try clear hcz7_1
    try clear hcz7_2
    try clear hcz9_0
    try clear hcz9_1
    try clear hcz9_2
    try clear hfz10_0
    try clear hfz10_1
    try clear hfz10_2
    try clear hfz5_0
    try clear hfz5_1
    try clear hfz5_2
    try clear hfz7_0
    try clear hfz7_1
    try clear hfz7_2
    try clear hfz9_0
    try clear hfz9_1
    try clear hfz9_2
    obtain ⟨kq, x25_1, rfl, HA, HJ1, BK182, HB⟩ := hcut
    cases kq with
    | zero => exact absurd HA.out (by simp [magpieref04_Good.j0])
    | succ kj1 =>
      have H := HA.out
      clear HA
      simp only [magpieref04_Good.j0] at H
      by_cases c11 : x25_1 = true
      · subst c11
        have H1 : (some false) = some r := by rw [if_pos rfl] at H; exact H
        clear H
        have H := H1
        clear H1
        obtain rfl := Option.some.inj H
        go_wp2
        repeat (go_quiet (fail); try go_wp2)
        go_ret
        exact ⟨by first | rfl | (simp [errW_none, errW_some] <;> rfl) | (simp [*, errW_none, errW_some] <;> rfl), by repeat (first | (with_reducible first | exact HB.out | apply below_alloc | apply pw_below_drewN | apply below_drew1 | refine below_set ?_ GE182.out) | exact HB.out)⟩
      · replace c11 := Bool.eq_false_iff.mpr c11
        subst c11
        have H1 : (magpieref04_Good.l0 kj1 l0_1 (l0_1.length : Int) 0 a0_0 l0_1 a0_2) = some r := by rw [if_neg (show ¬ (false = true) by decide)] at H; exact H
        clear H
        have H := H1
        clear H1
        have H' := Aside0.mk H
        clear H
        have hcz12_0 : wc.cell? ⟨gb182, 0, none⟩ = some (.int .i64 a0_0) := (blk_cell BK182.out 0).trans rfl
        have hcz12_1 : wc.cell? ⟨gb182, 1, none⟩ = some (.slice A0_1 l0_1.length c0_1) := (blk_cell BK182.out 1).trans rfl
        have hcz12_2 : wc.cell? ⟨gb182, 2, none⟩ = some (.string a0_2) := (blk_cell BK182.out 2).trans rfl
        have hfz12_0 := blk_frozen BK182.out 0
        have hfz12_1 := blk_frozen BK182.out 1
        have hfz12_2 := blk_frozen BK182.out 2
        go_wp2
        repeat (go_quiet (fail); try go_wp2)
        go_loopg [29] kj1 (fun kq v29 w' => ∃ (x29_2 : Int), v29 = .int .i64 x29_2 ∧ Aside0 (magpieref04_Good.l0 kq l0_1 (l0_1.length : Int) x29_2 a0_0 l0_1 a0_2 = some r) ∧ Aside0 (kq ≤ kj1) ∧ Aside0 (w'.heap[gb182]? = some (.cells #[.int .i64 a0_0, (.slice A0_1 l0_1.length c0_1), .string a0_2] 34 (0, 0))) ∧ Aside0 (Below w.heap.size w w'))
        case atStart => exact ⟨(0), (by first | rfl | (simp; done) | (simp [*]; done)), H', ⟨Nat.le_refl _⟩, ⟨by (with_reducible repeat (first | refine blk_drewN ?_ _ | refine blk_drew ?_ | refine blk_alloc ?_ _)); exact BK182.out⟩, ⟨by repeat (first | (with_reducible first | exact HB.out | apply below_alloc | apply pw_below_drewN | apply below_drew1 | refine below_set ?_ GE182.out) | exact HB.out)⟩⟩
        case round =>
          clear H'
          try clear c1
          try clear p2
          try clear c3
          try clear c4
          try clear c4b0
          try clear c6
          try clear c6b0
          try clear c8
          try clear c8b0
          try clear c8b1
          try clear c11
          try clear hcz10_0
          try clear hcz10_1
          try clear hcz10_2
          try clear hcz12_0
          try clear hcz12_1
          try clear hcz12_2
          try clear hcz5_0
          try clear hcz5_1
          try clear hcz5_2
          try clear hcz7_0
          try clear hcz7_1
          try clear hcz7_2
          try clear hcz9_0
          try clear hcz9_1
          try clear hcz9_2
          try clear hfz10_0
          try clear hfz10_1
          try clear hfz10_2
          try clear hfz12_0
          try clear hfz12_1
          try clear hfz12_2
          try clear hfz5_0
          try clear hfz5_1
          try clear hfz5_2
          try clear hfz7_0
          try clear hfz7_1
          try clear hfz7_2
          try clear hfz9_0
          try clear hfz9_1
          try clear hfz9_2
          try clear p2
          obtain ⟨x29_2, rfl, HA, HK2, BK182, HB⟩ := hrel
          cases gk with
          | zero => exact absurd HA.out (by simp [magpieref04_Good.l0])
          | succ k2 =>
            have H := HA.out
            clear HA
            simp only [magpieref04_Good.l0] at H
            by_cases c13 : x29_2 < (l0_1.length : Int)
            · rw [if_pos c13] at H
              have c13b0 : decide (x29_2 < (l0_1.length : Int)) = true := decide_eq_true c13
              clear c13
              by_cases c14 : 0 ≤ x29_2
              · rw [if_pos c14] at H
                have c14b0 : decide (0 ≤ x29_2) = true := decide_eq_true c14
                clear c14
                by_cases c15 : x29_2 < (l0_1.length : Int)
                · rw [if_pos c15] at H
                  have c15b0 : decide (x29_2 < (l0_1.length : Int)) = true := decide_eq_true c15
                  clear c15
                  replace H := Option.bind_eq_some_iff.mp H
                  obtain ⟨t185, A160, H⟩ := H
                  replace H : (if t185 = true then (if (((rd_T47 l0_1 x29_2).f1).size : Int) > 20 then (some false) else (if x29_2 > 0 then (if 0 ≤ (wrap64 (x29_2 - 1)) then (if (wrap64 (x29_2 - 1)) < (l0_1.length : Int) then (if ((Op.bytesLess (((rd_T47 l0_1 (wrap64 (x29_2 - 1))).f0).toList) (((rd_T47 l0_1 x29_2).f0).toList)) = true) then (magpieref04_Good.l0 k2 l0_1 (l0_1.length : Int) (wrap64 (x29_2 + 1)) a0_0 l0_1 a0_2) else (some false)) else (none)) else (none)) else (magpieref04_Good.l0 k2 l0_1 (l0_1.length : Int) (wrap64 (x29_2 + 1)) a0_0 l0_1 a0_2))) else (some false)) = some r := H
                  have A16 := Aside0.mk A160
                  clear A160
                  by_cases c17 : t185 = true
                  · subst c17
                    have H1 : (if (((rd_T47 l0_1 x29_2).f1).size : Int) > 20 then (some false) else (if x29_2 > 0 then (if 0 ≤ (wrap64 (x29_2 - 1)) then (if (wrap64 (x29_2 - 1)) < (l0_1.length : Int) then (if ((Op.bytesLess (((rd_T47 l0_1 (wrap64 (x29_2 - 1))).f0).toList) (((rd_T47 l0_1 x29_2).f0).toList)) = true) then (magpieref04_Good.l0 k2 l0_1 (l0_1.length : Int) (wrap64 (x29_2 + 1)) a0_0 l0_1 a0_2) else (some false)) else (none)) else (none)) else (magpieref04_Good.l0 k2 l0_1 (l0_1.length : Int) (wrap64 (x29_2 + 1)) a0_0 l0_1 a0_2))) = some r := by rw [if_pos rfl] at H; exact H
                    clear H
                    have H := H1
                    clear H1
                    by_cases c18 : (((rd_T47 l0_1 x29_2).f1).size : Int) > 20
                    · rw [if_pos c18] at H
                      have c18b0 : decide (20 < (((rd_T47 l0_1 x29_2).f1).size : Int)) = true := decide_eq_true c18
                      have c18b1 : decide (20 < ((rd_T47 l0_1 x29_2).f1).size) = true := decide_eq_true (by omega)
                      clear c18
                      obtain rfl := Option.some.inj H
                      have p183 : 0 ≤ (x29_2 : Int) := of_decide_eq_true (by first | (with_reducible assumption) | assumption)
                      have q183 : x29_2 < (l0_1.length : Int) := of_decide_eq_true (by first | (with_reducible assumption) | assumption)
                      obtain ⟨ad183, e183, hx183_0, hx183_1⟩ := at_T47 HR0_1.out x29_2 p183 q183
                      cases e183
                      replace hx183_0 := (HB.out.cell (World.block_lt_of_cell? w _ hx183_0)).trans hx183_0
                      replace hx183_1 := (HB.out.cell (World.block_lt_of_cell? w _ hx183_1)).trans hx183_1
                      replace p183 := eq_true p183
                      replace q183 := eq_true q183
                      go_wp2_with (first | ((with_reducible refine gate_dst (N := 4) rfl ?_); (try (refine gate_guard (by rfl) ?_; dsimp only)); refine box_event ?hg (N := 4) ?hd (cs := #[.string (⟨#[]⟩ : ByteArray), .string (⟨#[]⟩ : ByteArray)]) (t := 47) ?hr ?_; (case hd => rfl); (case hg => rfl); (case hr => first | (go_simp; done) | (go_simp; rfl)); intro gb184 hg w19 hbox hb; have n0_ := Aside0.mk (blk_below (g := gb182) (o := .cells #[.int .i64 a0_0, .slice (some ad183) l0_1.length c0_1, .string a0_2] 34 (0, 0)) (by (with_reducible repeat (first | refine blk_drewN ?_ _ | refine blk_drew ?_ | refine blk_alloc ?_ _)); exact BK182.out) hb); have n1_ := Aside0.mk (below_step (by repeat (first | (with_reducible first | exact HB.out | apply below_alloc | apply pw_below_drewN | apply below_drew1 | refine below_set ?_ GE182.out) | exact HB.out)) hb); have n2_ := Aside0.mk (hbox); have n3_ := Aside0.mk ((by rw [hg]; exact (below_size (by repeat (first | (with_reducible first | exact HB.out | apply below_alloc | apply pw_below_drewN | apply below_drew1 | refine below_set ?_ GE182.out) | exact HB.out))) : w.heap.size ≤ gb184)); have n4_ := Aside0.mk ((by rw [hg]; exact (below_size (by repeat (first | (with_reducible first | exact HB.out | apply below_alloc | apply pw_below_drewN | apply below_drew1 | refine below_set ?_ GE182.out) | exact HB.out))) : w.heap.size ≤ gb184)); have n5_ := Aside0.mk ((by rw [hg]; exact Nat.ne_of_lt (blk_lt (g := gb182) (o := .cells #[.int .i64 a0_0, .slice (some ad183) l0_1.length c0_1, .string a0_2] 34 (0, 0)) (by (with_reducible repeat (first | refine blk_drewN ?_ _ | refine blk_drew ?_ | refine blk_alloc ?_ _)); exact BK182.out)) : gb182 ≠ gb184)); have n6_ := Aside0.mk ((by rw [hg]; exact Nat.ne_of_gt (blk_lt (g := gb182) (o := .cells #[.int .i64 a0_0, .slice (some ad183) l0_1.length c0_1, .string a0_2] 34 (0, 0)) (by (with_reducible repeat (first | refine blk_drewN ?_ _ | refine blk_drew ?_ | refine blk_alloc ?_ _)); exact BK182.out)) : gb184 ≠ gb182)); clear BK182; clear HB; have BK182 := n0_; have HB := n1_; have BK184 := n2_; have GW184 := n3_; have GE184 := n4_; have NB182_184 := n5_; have NB184_182 := n6_; clear n0_ n1_ n2_ n3_ n4_ n5_ n6_; clear hb hbox hg; have hnb20 := NB184_182.out; have hnc20 := NB182_184.out; have hcz21_0 : w19.cell? ⟨gb184, 0, none⟩ = some (.string (⟨#[]⟩ : ByteArray)) := (blk_cell BK184.out 0).trans rfl; have hcz21_1 : w19.cell? ⟨gb184, 1, none⟩ = some (.string (⟨#[]⟩ : ByteArray)) := (blk_cell BK184.out 1).trans rfl; have hfz21_0 := blk_frozen BK184.out 0; have hfz21_1 := blk_frozen BK184.out 1) | (go_at_call 34; (with_reducible refine (magpieref04_Name.calls k2 ((rd_T47 l0_1 x29_2).f0) true _ A16.out).mono ?_); rintro e w' ⟨rfl, ⟨nd, rfl⟩⟩; (try first | exact ⟨rfl, _, World.drewN_drewN _ _ _⟩ | exact ⟨rfl, _, Eq.trans (World.drewN_drewN _ _ _) (congrArg (World.drewN _) (Nat.add_assoc _ _ _))⟩)))
                      repeat (go_quiet (first | ((with_reducible refine gate_dst (N := 4) rfl ?_); (try (refine gate_guard (by rfl) ?_; dsimp only)); refine box_event ?hg (N := 4) ?hd (cs := #[.string (⟨#[]⟩ : ByteArray), .string (⟨#[]⟩ : ByteArray)]) (t := 47) ?hr ?_; (case hd => rfl); (case hg => rfl); (case hr => first | (go_simp; done) | (go_simp; rfl)); intro gb184 hg w19 hbox hb; have n0_ := Aside0.mk (blk_below (g := gb182) (o := .cells #[.int .i64 a0_0, .slice (some ad183) l0_1.length c0_1, .string a0_2] 34 (0, 0)) (by (with_reducible repeat (first | refine blk_drewN ?_ _ | refine blk_drew ?_ | refine blk_alloc ?_ _)); exact BK182.out) hb); have n1_ := Aside0.mk (below_step (by repeat (first | (with_reducible first | exact HB.out | apply below_alloc | apply pw_below_drewN | apply below_drew1 | refine below_set ?_ GE182.out) | exact HB.out)) hb); have n2_ := Aside0.mk (hbox); have n3_ := Aside0.mk ((by rw [hg]; exact (below_size (by repeat (first | (with_reducible first | exact HB.out | apply below_alloc | apply pw_below_drewN | apply below_drew1 | refine below_set ?_ GE182.out) | exact HB.out))) : w.heap.size ≤ gb184)); have n4_ := Aside0.mk ((by rw [hg]; exact (below_size (by repeat (first | (with_reducible first | exact HB.out | apply below_alloc | apply pw_below_drewN | apply below_drew1 | refine below_set ?_ GE182.out) | exact HB.out))) : w.heap.size ≤ gb184)); have n5_ := Aside0.mk ((by rw [hg]; exact Nat.ne_of_lt (blk_lt (g := gb182) (o := .cells #[.int .i64 a0_0, .slice (some ad183) l0_1.length c0_1, .string a0_2] 34 (0, 0)) (by (with_reducible repeat (first | refine blk_drewN ?_ _ | refine blk_drew ?_ | refine blk_alloc ?_ _)); exact BK182.out)) : gb182 ≠ gb184)); have n6_ := Aside0.mk ((by rw [hg]; exact Nat.ne_of_gt (blk_lt (g := gb182) (o := .cells #[.int .i64 a0_0, .slice (some ad183) l0_1.length c0_1, .string a0_2] 34 (0, 0)) (by (with_reducible repeat (first | refine blk_drewN ?_ _ | refine blk_drew ?_ | refine blk_alloc ?_ _)); exact BK182.out)) : gb184 ≠ gb182)); clear BK182; clear HB; have BK182 := n0_; have HB := n1_; have BK184 := n2_; have GW184 := n3_; have GE184 := n4_; have NB182_184 := n5_; have NB184_182 := n6_; clear n0_ n1_ n2_ n3_ n4_ n5_ n6_; clear hb hbox hg; have hnb20 := NB184_182.out; have hnc20 := NB182_184.out; have hcz21_0 : w19.cell? ⟨gb184, 0, none⟩ = some (.string (⟨#[]⟩ : ByteArray)) := (blk_cell BK184.out 0).trans rfl; have hcz21_1 : w19.cell? ⟨gb184, 1, none⟩ = some (.string (⟨#[]⟩ : ByteArray)) := (blk_cell BK184.out 1).trans rfl; have hfz21_0 := blk_frozen BK184.out 0; have hfz21_1 := blk_frozen BK184.out 1) | (go_at_call 34; (with_reducible refine (magpieref04_Name.calls k2 ((rd_T47 l0_1 x29_2).f0) true _ A16.out).mono ?_); rintro e w' ⟨rfl, ⟨nd, rfl⟩⟩; (try first | exact ⟨rfl, _, World.drewN_drewN _ _ _⟩ | exact ⟨rfl, _, Eq.trans (World.drewN_drewN _ _ _) (congrArg (World.drewN _) (Nat.add_assoc _ _ _))⟩))); try go_wp2_with (first | ((with_reducible refine gate_dst (N := 4) rfl ?_); (try (refine gate_guard (by rfl) ?_; dsimp only)); refine box_event ?hg (N := 4) ?hd (cs := #[.string (⟨#[]⟩ : ByteArray), .string (⟨#[]⟩ : ByteArray)]) (t := 47) ?hr ?_; (case hd => rfl); (case hg => rfl); (case hr => first | (go_simp; done) | (go_simp; rfl)); intro gb184 hg w19 hbox hb; have n0_ := Aside0.mk (blk_below (g := gb182) (o := .cells #[.int .i64 a0_0, .slice (some ad183) l0_1.length c0_1, .string a0_2] 34 (0, 0)) (by (with_reducible repeat (first | refine blk_drewN ?_ _ | refine blk_drew ?_ | refine blk_alloc ?_ _)); exact BK182.out) hb); have n1_ := Aside0.mk (below_step (by repeat (first | (with_reducible first | exact HB.out | apply below_alloc | apply pw_below_drewN | apply below_drew1 | refine below_set ?_ GE182.out) | exact HB.out)) hb); have n2_ := Aside0.mk (hbox); have n3_ := Aside0.mk ((by rw [hg]; exact (below_size (by repeat (first | (with_reducible first | exact HB.out | apply below_alloc | apply pw_below_drewN | apply below_drew1 | refine below_set ?_ GE182.out) | exact HB.out))) : w.heap.size ≤ gb184)); have n4_ := Aside0.mk ((by rw [hg]; exact (below_size (by repeat (first | (with_reducible first | exact HB.out | apply below_alloc | apply pw_below_drewN | apply below_drew1 | refine below_set ?_ GE182.out) | exact HB.out))) : w.heap.size ≤ gb184)); have n5_ := Aside0.mk ((by rw [hg]; exact Nat.ne_of_lt (blk_lt (g := gb182) (o := .cells #[.int .i64 a0_0, .slice (some ad183) l0_1.length c0_1, .string a0_2] 34 (0, 0)) (by (with_reducible repeat (first | refine blk_drewN ?_ _ | refine blk_drew ?_ | refine blk_alloc ?_ _)); exact BK182.out)) : gb182 ≠ gb184)); have n6_ := Aside0.mk ((by rw [hg]; exact Nat.ne_of_gt (blk_lt (g := gb182) (o := .cells #[.int .i64 a0_0, .slice (some ad183) l0_1.length c0_1, .string a0_2] 34 (0, 0)) (by (with_reducible repeat (first | refine blk_drewN ?_ _ | refine blk_drew ?_ | refine blk_alloc ?_ _)); exact BK182.out)) : gb184 ≠ gb182)); clear BK182; clear HB; have BK182 := n0_; have HB := n1_; have BK184 := n2_; have GW184 := n3_; have GE184 := n4_; have NB182_184 := n5_; have NB184_182 := n6_; clear n0_ n1_ n2_ n3_ n4_ n5_ n6_; clear hb hbox hg; have hnb20 := NB184_182.out; have hnc20 := NB182_184.out; have hcz21_0 : w19.cell? ⟨gb184, 0, none⟩ = some (.string (⟨#[]⟩ : ByteArray)) := (blk_cell BK184.out 0).trans rfl; have hcz21_1 : w19.cell? ⟨gb184, 1, none⟩ = some (.string (⟨#[]⟩ : ByteArray)) := (blk_cell BK184.out 1).trans rfl; have hfz21_0 := blk_frozen BK184.out 0; have hfz21_1 := blk_frozen BK184.out 1) | (go_at_call 34; (with_reducible refine (magpieref04_Name.calls k2 ((rd_T47 l0_1 x29_2).f0) true _ A16.out).mono ?_); rintro e w' ⟨rfl, ⟨nd, rfl⟩⟩; (try first | exact ⟨rfl, _, World.drewN_drewN _ _ _⟩ | exact ⟨rfl, _, Eq.trans (World.drewN_drewN _ _ _) (congrArg (World.drewN _) (Nat.add_assoc _ _ _))⟩))))
                      go_ret
                      exact ⟨by first | rfl | (simp [errW_none, errW_some] <;> rfl) | (simp [*, errW_none, errW_some] <;> rfl), by repeat (first | (with_reducible first | exact HB.out | apply below_alloc | apply pw_below_drewN | apply below_drew1 | refine below_set ?_ GE182.out | refine below_set ?_ GE184.out) | exact HB.out)⟩
                    · rw [if_neg c18] at H
                      have c18b0 : decide (20 < (((rd_T47 l0_1 x29_2).f1).size : Int)) = false := decide_eq_false c18
                      have c18b1 : decide (20 < ((rd_T47 l0_1 x29_2).f1).size) = false := decide_eq_false (by omega)
                      clear c18
                      by_cases c22 : x29_2 > 0
                      · rw [if_pos c22] at H
                        have c22b0 : decide (0 < x29_2) = true := decide_eq_true c22
                        clear c22
                        obtain ⟨ji23, hji23⟩ : ∃ j_ : Int, (wrap64 (x29_2 - 1)) = j_ := ⟨_, rfl⟩
                        replace H : (if 0 ≤ (ji23) then (if (ji23) < (l0_1.length : Int) then (if ((Op.bytesLess (((rd_T47 l0_1 (ji23)).f0).toList) (((rd_T47 l0_1 x29_2).f0).toList)) = true) then (magpieref04_Good.l0 k2 l0_1 (l0_1.length : Int) (wrap64 (x29_2 + 1)) a0_0 l0_1 a0_2) else (some false)) else (none)) else (none)) = some r := by first | (rw [hji23] at H; exact H) | (simp only [hji23] at H ⊢; exact H)
                        (try rw [hji23] at A16)
                        have hji23w : (IntKind.i64.wrap (x29_2 - 1)) = ji23 := (i64_w _).trans hji23
                        by_cases c24 : 0 ≤ (ji23)
                        · rw [if_pos c24] at H
                          have c24b0 : decide (0 ≤ (ji23)) = true := decide_eq_true c24
                          clear c24
                          by_cases c25 : (ji23) < (l0_1.length : Int)
                          · rw [if_pos c25] at H
                            have c25b0 : decide ((ji23) < (l0_1.length : Int)) = true := decide_eq_true c25
                            clear c25
                            by_cases c26 : ((Op.bytesLess (((rd_T47 l0_1 (ji23)).f0).toList) (((rd_T47 l0_1 x29_2).f0).toList)) = true)
                            · rw [if_pos c26] at H
                              have c26b0 : (Op.bytesLess (((rd_T47 l0_1 (ji23)).f0).toList) (((rd_T47 l0_1 x29_2).f0).toList)) = true := c26
                              clear c26
                              have H' := Aside0.mk H
                              clear H
                              have p183 : 0 ≤ (x29_2 : Int) := of_decide_eq_true (by first | (with_reducible assumption) | assumption)
                              have q183 : x29_2 < (l0_1.length : Int) := of_decide_eq_true (by first | (with_reducible assumption) | assumption)
                              obtain ⟨ad183, e183, hx183_0, hx183_1⟩ := at_T47 HR0_1.out x29_2 p183 q183
                              cases e183
                              replace hx183_0 := (HB.out.cell (World.block_lt_of_cell? w _ hx183_0)).trans hx183_0
                              replace hx183_1 := (HB.out.cell (World.block_lt_of_cell? w _ hx183_1)).trans hx183_1
                              replace p183 := eq_true p183
                              replace q183 := eq_true q183
                              go_wp2_with (first | ((with_reducible refine gate_dst (N := 4) rfl ?_); (try (refine gate_guard (by rfl) ?_; dsimp only)); refine box_event ?hg (N := 4) ?hd (cs := #[.string (⟨#[]⟩ : ByteArray), .string (⟨#[]⟩ : ByteArray)]) (t := 47) ?hr ?_; (case hd => rfl); (case hg => rfl); (case hr => first | (go_simp; done) | (go_simp; rfl)); intro gb184 hg w27 hbox hb; have n0_ := Aside0.mk (blk_below (g := gb182) (o := .cells #[.int .i64 a0_0, .slice (some ad183) l0_1.length c0_1, .string a0_2] 34 (0, 0)) (by (with_reducible repeat (first | refine blk_drewN ?_ _ | refine blk_drew ?_ | refine blk_alloc ?_ _)); exact BK182.out) hb); have n1_ := Aside0.mk (below_step (by repeat (first | (with_reducible first | exact HB.out | apply below_alloc | apply pw_below_drewN | apply below_drew1 | refine below_set ?_ GE182.out) | exact HB.out)) hb); have n2_ := Aside0.mk (hbox); have n3_ := Aside0.mk ((by rw [hg]; exact (below_size (by repeat (first | (with_reducible first | exact HB.out | apply below_alloc | apply pw_below_drewN | apply below_drew1 | refine below_set ?_ GE182.out) | exact HB.out))) : w.heap.size ≤ gb184)); have n4_ := Aside0.mk ((by rw [hg]; exact (below_size (by repeat (first | (with_reducible first | exact HB.out | apply below_alloc | apply pw_below_drewN | apply below_drew1 | refine below_set ?_ GE182.out) | exact HB.out))) : w.heap.size ≤ gb184)); have n5_ := Aside0.mk ((by rw [hg]; exact Nat.ne_of_lt (blk_lt (g := gb182) (o := .cells #[.int .i64 a0_0, .slice (some ad183) l0_1.length c0_1, .string a0_2] 34 (0, 0)) (by (with_reducible repeat (first | refine blk_drewN ?_ _ | refine blk_drew ?_ | refine blk_alloc ?_ _)); exact BK182.out)) : gb182 ≠ gb184)); have n6_ := Aside0.mk ((by rw [hg]; exact Nat.ne_of_gt (blk_lt (g := gb182) (o := .cells #[.int .i64 a0_0, .slice (some ad183) l0_1.length c0_1, .string a0_2] 34 (0, 0)) (by (with_reducible repeat (first | refine blk_drewN ?_ _ | refine blk_drew ?_ | refine blk_alloc ?_ _)); exact BK182.out)) : gb184 ≠ gb182)); clear BK182; clear HB; have BK182 := n0_; have HB := n1_; have BK184 := n2_; have GW184 := n3_; have GE184 := n4_; have NB182_184 := n5_; have NB184_182 := n6_; clear n0_ n1_ n2_ n3_ n4_ n5_ n6_; clear hb hbox hg; have hnb28 := NB184_182.out; have hnc28 := NB182_184.out; have hcz29_0 : w27.cell? ⟨gb184, 0, none⟩ = some (.string (⟨#[]⟩ : ByteArray)) := (blk_cell BK184.out 0).trans rfl; have hcz29_1 : w27.cell? ⟨gb184, 1, none⟩ = some (.string (⟨#[]⟩ : ByteArray)) := (blk_cell BK184.out 1).trans rfl; have hfz29_0 := blk_frozen BK184.out 0; have hfz29_1 := blk_frozen BK184.out 1) | (go_at_call 34; (with_reducible refine (magpieref04_Name.calls k2 ((rd_T47 l0_1 x29_2).f0) true _ A16.out).mono ?_); rintro e w' ⟨rfl, ⟨nd, rfl⟩⟩; (try first | exact ⟨rfl, _, World.drewN_drewN _ _ _⟩ | exact ⟨rfl, _, Eq.trans (World.drewN_drewN _ _ _) (congrArg (World.drewN _) (Nat.add_assoc _ _ _))⟩); have hcz30_0 : w27.cell? ⟨gb182, 0, none⟩ = some (.int .i64 a0_0) := (blk_cell BK182.out 0).trans rfl; have hcz30_1 : w27.cell? ⟨gb182, 1, none⟩ = some (.slice (some ad183) l0_1.length c0_1) := (blk_cell BK182.out 1).trans rfl; have hcz30_2 : w27.cell? ⟨gb182, 2, none⟩ = some (.string a0_2) := (blk_cell BK182.out 2).trans rfl; have hfz30_0 := blk_frozen BK182.out 0; have hfz30_1 := blk_frozen BK182.out 1; have hfz30_2 := blk_frozen BK182.out 2; have p186 : 0 ≤ ((ji23) : Int) := of_decide_eq_true (by first | (with_reducible assumption) | assumption); have q186 : (ji23) < (l0_1.length : Int) := of_decide_eq_true (by first | (with_reducible assumption) | assumption); obtain ⟨ad186, e186, hx186_0, hx186_1⟩ := at_T47 HR0_1.out (ji23) p186 q186; obtain rfl : ad183 = ad186 := (by injection e186); have hn186_0 : ad183.block ≠ gb184 := Nat.ne_of_lt (Nat.lt_of_lt_of_le (by have := World.block_lt_of_cell? _ _ hx186_0; first | rwa [add_block] at this | exact this) GW184.out); have hn186_1 : ad183.block ≠ gb184 := Nat.ne_of_lt (Nat.lt_of_lt_of_le (by have := World.block_lt_of_cell? _ _ hx186_0; first | rwa [add_block] at this | exact this) GW184.out); replace hx186_0 := (HB.out.cell (World.block_lt_of_cell? w _ hx186_0)).trans hx186_0; replace hx186_1 := (HB.out.cell (World.block_lt_of_cell? w _ hx186_1)).trans hx186_1; replace hx186_0 := (cell_far (p := ⟨gb184, 0, none⟩) (by first | (rw [add_block]; exact hn186_0) | (show (Addr.add _ _).block ≠ _; rw [add_block]; exact hn186_0) | exact hn186_0) (.string ((rd_T47 l0_1 x29_2).f0))).trans hx186_0; replace hx186_1 := (cell_far (p := ⟨gb184, 0, none⟩) (by first | (rw [add_block]; exact hn186_0) | (show (Addr.add _ _).block ≠ _; rw [add_block]; exact hn186_0) | exact hn186_0) (.string ((rd_T47 l0_1 x29_2).f0))).trans hx186_1; replace hx186_0 := (cell_far (p := ⟨gb184, 1, none⟩) (by first | (rw [add_block]; exact hn186_1) | (show (Addr.add _ _).block ≠ _; rw [add_block]; exact hn186_1) | exact hn186_1) (.string ((rd_T47 l0_1 x29_2).f1))).trans hx186_0; replace hx186_1 := (cell_far (p := ⟨gb184, 1, none⟩) (by first | (rw [add_block]; exact hn186_1) | (show (Addr.add _ _).block ≠ _; rw [add_block]; exact hn186_1) | exact hn186_1) (.string ((rd_T47 l0_1 x29_2).f1))).trans hx186_1; (try have hy186_0 := fun (n_ : Nat) => (show ((((w27.drewN n_).setCell ⟨gb184, 0, none⟩ (.string ((rd_T47 l0_1 x29_2).f0))).setCell ⟨gb184, 1, none⟩ (.string ((rd_T47 l0_1 x29_2).f1)))).cell? _ = some _ from hx186_0)); (try have hy186_1 := fun (n_ : Nat) => (show ((((w27.drewN n_).setCell ⟨gb184, 0, none⟩ (.string ((rd_T47 l0_1 x29_2).f0))).setCell ⟨gb184, 1, none⟩ (.string ((rd_T47 l0_1 x29_2).f1)))).cell? _ = some _ from hx186_1)); clear hn186_0; clear hn186_1; replace p186 := eq_true p186; replace q186 := eq_true q186))
                              repeat (go_quiet (first | ((with_reducible refine gate_dst (N := 4) rfl ?_); (try (refine gate_guard (by rfl) ?_; dsimp only)); refine box_event ?hg (N := 4) ?hd (cs := #[.string (⟨#[]⟩ : ByteArray), .string (⟨#[]⟩ : ByteArray)]) (t := 47) ?hr ?_; (case hd => rfl); (case hg => rfl); (case hr => first | (go_simp; done) | (go_simp; rfl)); intro gb184 hg w27 hbox hb; have n0_ := Aside0.mk (blk_below (g := gb182) (o := .cells #[.int .i64 a0_0, .slice (some ad183) l0_1.length c0_1, .string a0_2] 34 (0, 0)) (by (with_reducible repeat (first | refine blk_drewN ?_ _ | refine blk_drew ?_ | refine blk_alloc ?_ _)); exact BK182.out) hb); have n1_ := Aside0.mk (below_step (by repeat (first | (with_reducible first | exact HB.out | apply below_alloc | apply pw_below_drewN | apply below_drew1 | refine below_set ?_ GE182.out) | exact HB.out)) hb); have n2_ := Aside0.mk (hbox); have n3_ := Aside0.mk ((by rw [hg]; exact (below_size (by repeat (first | (with_reducible first | exact HB.out | apply below_alloc | apply pw_below_drewN | apply below_drew1 | refine below_set ?_ GE182.out) | exact HB.out))) : w.heap.size ≤ gb184)); have n4_ := Aside0.mk ((by rw [hg]; exact (below_size (by repeat (first | (with_reducible first | exact HB.out | apply below_alloc | apply pw_below_drewN | apply below_drew1 | refine below_set ?_ GE182.out) | exact HB.out))) : w.heap.size ≤ gb184)); have n5_ := Aside0.mk ((by rw [hg]; exact Nat.ne_of_lt (blk_lt (g := gb182) (o := .cells #[.int .i64 a0_0, .slice (some ad183) l0_1.length c0_1, .string a0_2] 34 (0, 0)) (by (with_reducible repeat (first | refine blk_drewN ?_ _ | refine blk_drew ?_ | refine blk_alloc ?_ _)); exact BK182.out)) : gb182 ≠ gb184)); have n6_ := Aside0.mk ((by rw [hg]; exact Nat.ne_of_gt (blk_lt (g := gb182) (o := .cells #[.int .i64 a0_0, .slice (some ad183) l0_1.length c0_1, .string a0_2] 34 (0, 0)) (by (with_reducible repeat (first | refine blk_drewN ?_ _ | refine blk_drew ?_ | refine blk_alloc ?_ _)); exact BK182.out)) : gb184 ≠ gb182)); clear BK182; clear HB; have BK182 := n0_; have HB := n1_; have BK184 := n2_; have GW184 := n3_; have GE184 := n4_; have NB182_184 := n5_; have NB184_182 := n6_; clear n0_ n1_ n2_ n3_ n4_ n5_ n6_; clear hb hbox hg; have hnb28 := NB184_182.out; have hnc28 := NB182_184.out; have hcz29_0 : w27.cell? ⟨gb184, 0, none⟩ = some (.string (⟨#[]⟩ : ByteArray)) := (blk_cell BK184.out 0).trans rfl; have hcz29_1 : w27.cell? ⟨gb184, 1, none⟩ = some (.string (⟨#[]⟩ : ByteArray)) := (blk_cell BK184.out 1).trans rfl; have hfz29_0 := blk_frozen BK184.out 0; have hfz29_1 := blk_frozen BK184.out 1) | (go_at_call 34; (with_reducible refine (magpieref04_Name.calls k2 ((rd_T47 l0_1 x29_2).f0) true _ A16.out).mono ?_); rintro e w' ⟨rfl, ⟨nd, rfl⟩⟩; (try first | exact ⟨rfl, _, World.drewN_drewN _ _ _⟩ | exact ⟨rfl, _, Eq.trans (World.drewN_drewN _ _ _) (congrArg (World.drewN _) (Nat.add_assoc _ _ _))⟩); have hcz30_0 : w27.cell? ⟨gb182, 0, none⟩ = some (.int .i64 a0_0) := (blk_cell BK182.out 0).trans rfl; have hcz30_1 : w27.cell? ⟨gb182, 1, none⟩ = some (.slice (some ad183) l0_1.length c0_1) := (blk_cell BK182.out 1).trans rfl; have hcz30_2 : w27.cell? ⟨gb182, 2, none⟩ = some (.string a0_2) := (blk_cell BK182.out 2).trans rfl; have hfz30_0 := blk_frozen BK182.out 0; have hfz30_1 := blk_frozen BK182.out 1; have hfz30_2 := blk_frozen BK182.out 2; have p186 : 0 ≤ ((ji23) : Int) := of_decide_eq_true (by first | (with_reducible assumption) | assumption); have q186 : (ji23) < (l0_1.length : Int) := of_decide_eq_true (by first | (with_reducible assumption) | assumption); obtain ⟨ad186, e186, hx186_0, hx186_1⟩ := at_T47 HR0_1.out (ji23) p186 q186; obtain rfl : ad183 = ad186 := (by injection e186); have hn186_0 : ad183.block ≠ gb184 := Nat.ne_of_lt (Nat.lt_of_lt_of_le (by have := World.block_lt_of_cell? _ _ hx186_0; first | rwa [add_block] at this | exact this) GW184.out); have hn186_1 : ad183.block ≠ gb184 := Nat.ne_of_lt (Nat.lt_of_lt_of_le (by have := World.block_lt_of_cell? _ _ hx186_0; first | rwa [add_block] at this | exact this) GW184.out); replace hx186_0 := (HB.out.cell (World.block_lt_of_cell? w _ hx186_0)).trans hx186_0; replace hx186_1 := (HB.out.cell (World.block_lt_of_cell? w _ hx186_1)).trans hx186_1; replace hx186_0 := (cell_far (p := ⟨gb184, 0, none⟩) (by first | (rw [add_block]; exact hn186_0) | (show (Addr.add _ _).block ≠ _; rw [add_block]; exact hn186_0) | exact hn186_0) (.string ((rd_T47 l0_1 x29_2).f0))).trans hx186_0; replace hx186_1 := (cell_far (p := ⟨gb184, 0, none⟩) (by first | (rw [add_block]; exact hn186_0) | (show (Addr.add _ _).block ≠ _; rw [add_block]; exact hn186_0) | exact hn186_0) (.string ((rd_T47 l0_1 x29_2).f0))).trans hx186_1; replace hx186_0 := (cell_far (p := ⟨gb184, 1, none⟩) (by first | (rw [add_block]; exact hn186_1) | (show (Addr.add _ _).block ≠ _; rw [add_block]; exact hn186_1) | exact hn186_1) (.string ((rd_T47 l0_1 x29_2).f1))).trans hx186_0; replace hx186_1 := (cell_far (p := ⟨gb184, 1, none⟩) (by first | (rw [add_block]; exact hn186_1) | (show (Addr.add _ _).block ≠ _; rw [add_block]; exact hn186_1) | exact hn186_1) (.string ((rd_T47 l0_1 x29_2).f1))).trans hx186_1; (try have hy186_0 := fun (n_ : Nat) => (show ((((w27.drewN n_).setCell ⟨gb184, 0, none⟩ (.string ((rd_T47 l0_1 x29_2).f0))).setCell ⟨gb184, 1, none⟩ (.string ((rd_T47 l0_1 x29_2).f1)))).cell? _ = some _ from hx186_0)); (try have hy186_1 := fun (n_ : Nat) => (show ((((w27.drewN n_).setCell ⟨gb184, 0, none⟩ (.string ((rd_T47 l0_1 x29_2).f0))).setCell ⟨gb184, 1, none⟩ (.string ((rd_T47 l0_1 x29_2).f1)))).cell? _ = some _ from hx186_1)); clear hn186_0; clear hn186_1; replace p186 := eq_true p186; replace q186 := eq_true q186)); try go_wp2_with (first | ((with_reducible refine gate_dst (N := 4) rfl ?_); (try (refine gate_guard (by rfl) ?_; dsimp only)); refine box_event ?hg (N := 4) ?hd (cs := #[.string (⟨#[]⟩ : ByteArray), .string (⟨#[]⟩ : ByteArray)]) (t := 47) ?hr ?_; (case hd => rfl); (case hg => rfl); (case hr => first | (go_simp; done) | (go_simp; rfl)); intro gb184 hg w27 hbox hb; have n0_ := Aside0.mk (blk_below (g := gb182) (o := .cells #[.int .i64 a0_0, .slice (some ad183) l0_1.length c0_1, .string a0_2] 34 (0, 0)) (by (with_reducible repeat (first | refine blk_drewN ?_ _ | refine blk_drew ?_ | refine blk_alloc ?_ _)); exact BK182.out) hb); have n1_ := Aside0.mk (below_step (by repeat (first | (with_reducible first | exact HB.out | apply below_alloc | apply pw_below_drewN | apply below_drew1 | refine below_set ?_ GE182.out) | exact HB.out)) hb); have n2_ := Aside0.mk (hbox); have n3_ := Aside0.mk ((by rw [hg]; exact (below_size (by repeat (first | (with_reducible first | exact HB.out | apply below_alloc | apply pw_below_drewN | apply below_drew1 | refine below_set ?_ GE182.out) | exact HB.out))) : w.heap.size ≤ gb184)); have n4_ := Aside0.mk ((by rw [hg]; exact (below_size (by repeat (first | (with_reducible first | exact HB.out | apply below_alloc | apply pw_below_drewN | apply below_drew1 | refine below_set ?_ GE182.out) | exact HB.out))) : w.heap.size ≤ gb184)); have n5_ := Aside0.mk ((by rw [hg]; exact Nat.ne_of_lt (blk_lt (g := gb182) (o := .cells #[.int .i64 a0_0, .slice (some ad183) l0_1.length c0_1, .string a0_2] 34 (0, 0)) (by (with_reducible repeat (first | refine blk_drewN ?_ _ | refine blk_drew ?_ | refine blk_alloc ?_ _)); exact BK182.out)) : gb182 ≠ gb184)); have n6_ := Aside0.mk ((by rw [hg]; exact Nat.ne_of_gt (blk_lt (g := gb182) (o := .cells #[.int .i64 a0_0, .slice (some ad183) l0_1.length c0_1, .string a0_2] 34 (0, 0)) (by (with_reducible repeat (first | refine blk_drewN ?_ _ | refine blk_drew ?_ | refine blk_alloc ?_ _)); exact BK182.out)) : gb184 ≠ gb182)); clear BK182; clear HB; have BK182 := n0_; have HB := n1_; have BK184 := n2_; have GW184 := n3_; have GE184 := n4_; have NB182_184 := n5_; have NB184_182 := n6_; clear n0_ n1_ n2_ n3_ n4_ n5_ n6_; clear hb hbox hg; have hnb28 := NB184_182.out; have hnc28 := NB182_184.out; have hcz29_0 : w27.cell? ⟨gb184, 0, none⟩ = some (.string (⟨#[]⟩ : ByteArray)) := (blk_cell BK184.out 0).trans rfl; have hcz29_1 : w27.cell? ⟨gb184, 1, none⟩ = some (.string (⟨#[]⟩ : ByteArray)) := (blk_cell BK184.out 1).trans rfl; have hfz29_0 := blk_frozen BK184.out 0; have hfz29_1 := blk_frozen BK184.out 1) | (go_at_call 34; (with_reducible refine (magpieref04_Name.calls k2 ((rd_T47 l0_1 x29_2).f0) true _ A16.out).mono ?_); rintro e w' ⟨rfl, ⟨nd, rfl⟩⟩; (try first | exact ⟨rfl, _, World.drewN_drewN _ _ _⟩ | exact ⟨rfl, _, Eq.trans (World.drewN_drewN _ _ _) (congrArg (World.drewN _) (Nat.add_assoc _ _ _))⟩); have hcz30_0 : w27.cell? ⟨gb182, 0, none⟩ = some (.int .i64 a0_0) := (blk_cell BK182.out 0).trans rfl; have hcz30_1 : w27.cell? ⟨gb182, 1, none⟩ = some (.slice (some ad183) l0_1.length c0_1) := (blk_cell BK182.out 1).trans rfl; have hcz30_2 : w27.cell? ⟨gb182, 2, none⟩ = some (.string a0_2) := (blk_cell BK182.out 2).trans rfl; have hfz30_0 := blk_frozen BK182.out 0; have hfz30_1 := blk_frozen BK182.out 1; have hfz30_2 := blk_frozen BK182.out 2; have p186 : 0 ≤ ((ji23) : Int) := of_decide_eq_true (by first | (with_reducible assumption) | assumption); have q186 : (ji23) < (l0_1.length : Int) := of_decide_eq_true (by first | (with_reducible assumption) | assumption); obtain ⟨ad186, e186, hx186_0, hx186_1⟩ := at_T47 HR0_1.out (ji23) p186 q186; obtain rfl : ad183 = ad186 := (by injection e186); have hn186_0 : ad183.block ≠ gb184 := Nat.ne_of_lt (Nat.lt_of_lt_of_le (by have := World.block_lt_of_cell? _ _ hx186_0; first | rwa [add_block] at this | exact this) GW184.out); have hn186_1 : ad183.block ≠ gb184 := Nat.ne_of_lt (Nat.lt_of_lt_of_le (by have := World.block_lt_of_cell? _ _ hx186_0; first | rwa [add_block] at this | exact this) GW184.out); replace hx186_0 := (HB.out.cell (World.block_lt_of_cell? w _ hx186_0)).trans hx186_0; replace hx186_1 := (HB.out.cell (World.block_lt_of_cell? w _ hx186_1)).trans hx186_1; replace hx186_0 := (cell_far (p := ⟨gb184, 0, none⟩) (by first | (rw [add_block]; exact hn186_0) | (show (Addr.add _ _).block ≠ _; rw [add_block]; exact hn186_0) | exact hn186_0) (.string ((rd_T47 l0_1 x29_2).f0))).trans hx186_0; replace hx186_1 := (cell_far (p := ⟨gb184, 0, none⟩) (by first | (rw [add_block]; exact hn186_0) | (show (Addr.add _ _).block ≠ _; rw [add_block]; exact hn186_0) | exact hn186_0) (.string ((rd_T47 l0_1 x29_2).f0))).trans hx186_1; replace hx186_0 := (cell_far (p := ⟨gb184, 1, none⟩) (by first | (rw [add_block]; exact hn186_1) | (show (Addr.add _ _).block ≠ _; rw [add_block]; exact hn186_1) | exact hn186_1) (.string ((rd_T47 l0_1 x29_2).f1))).trans hx186_0; replace hx186_1 := (cell_far (p := ⟨gb184, 1, none⟩) (by first | (rw [add_block]; exact hn186_1) | (show (Addr.add _ _).block ≠ _; rw [add_block]; exact hn186_1) | exact hn186_1) (.string ((rd_T47 l0_1 x29_2).f1))).trans hx186_1; (try have hy186_0 := fun (n_ : Nat) => (show ((((w27.drewN n_).setCell ⟨gb184, 0, none⟩ (.string ((rd_T47 l0_1 x29_2).f0))).setCell ⟨gb184, 1, none⟩ (.string ((rd_T47 l0_1 x29_2).f1)))).cell? _ = some _ from hx186_0)); (try have hy186_1 := fun (n_ : Nat) => (show ((((w27.drewN n_).setCell ⟨gb184, 0, none⟩ (.string ((rd_T47 l0_1 x29_2).f0))).setCell ⟨gb184, 1, none⟩ (.string ((rd_T47 l0_1 x29_2).f1)))).cell? _ = some _ from hx186_1)); clear hn186_0; clear hn186_1; replace p186 := eq_true p186; replace q186 := eq_true q186)))
                              go_roundg k2
                              case measure => have := HJ1.out; have := HK2.out; omega
                              case rel => exact ⟨(wrap64 (x29_2 + 1)), (by first | rfl | (simp; done) | (simp [*]; done)), H', ⟨by have := HJ1.out; have := HK2.out; omega⟩, ⟨by (with_reducible repeat (first | refine blk_drewN ?_ _ | refine blk_drew ?_ | refine blk_alloc ?_ _)); refine blk_far ?_ NB182_184.out _; (with_reducible repeat (first | refine blk_drewN ?_ _ | refine blk_drew ?_ | refine blk_alloc ?_ _)); refine blk_far ?_ NB182_184.out _; (with_reducible repeat (first | refine blk_drewN ?_ _ | refine blk_drew ?_ | refine blk_alloc ?_ _)); exact BK182.out⟩, ⟨by repeat (first | (with_reducible first | exact HB.out | apply below_alloc | apply pw_below_drewN | apply below_drew1 | refine below_set ?_ GE182.out | refine below_set ?_ GE184.out) | exact HB.out)⟩⟩
                            · rw [if_neg c26] at H
                              have c26b0 : (Op.bytesLess (((rd_T47 l0_1 (ji23)).f0).toList) (((rd_T47 l0_1 x29_2).f0).toList)) = false := by simpa using c26
                              clear c26
                              obtain rfl := Option.some.inj H
                              have p183 : 0 ≤ (x29_2 : Int) := of_decide_eq_true (by first | (with_reducible assumption) | assumption)
                              have q183 : x29_2 < (l0_1.length : Int) := of_decide_eq_true (by first | (with_reducible assumption) | assumption)
                              obtain ⟨ad183, e183, hx183_0, hx183_1⟩ := at_T47 HR0_1.out x29_2 p183 q183
                              cases e183
                              replace hx183_0 := (HB.out.cell (World.block_lt_of_cell? w _ hx183_0)).trans hx183_0
                              replace hx183_1 := (HB.out.cell (World.block_lt_of_cell? w _ hx183_1)).trans hx183_1
                              replace p183 := eq_true p183
                              replace q183 := eq_true q183
                              go_wp2_with (first | ((with_reducible refine gate_dst (N := 4) rfl ?_); (try (refine gate_guard (by rfl) ?_; dsimp only)); refine box_event ?hg (N := 4) ?hd (cs := #[.string (⟨#[]⟩ : ByteArray), .string (⟨#[]⟩ : ByteArray)]) (t := 47) ?hr ?_; (case hd => rfl); (case hg => rfl); (case hr => first | (go_simp; done) | (go_simp; rfl)); intro gb184 hg w31 hbox hb; have n0_ := Aside0.mk (blk_below (g := gb182) (o := .cells #[.int .i64 a0_0, .slice (some ad183) l0_1.length c0_1, .string a0_2] 34 (0, 0)) (by (with_reducible repeat (first | refine blk_drewN ?_ _ | refine blk_drew ?_ | refine blk_alloc ?_ _)); exact BK182.out) hb); have n1_ := Aside0.mk (below_step (by repeat (first | (with_reducible first | exact HB.out | apply below_alloc | apply pw_below_drewN | apply below_drew1 | refine below_set ?_ GE182.out) | exact HB.out)) hb); have n2_ := Aside0.mk (hbox); have n3_ := Aside0.mk ((by rw [hg]; exact (below_size (by repeat (first | (with_reducible first | exact HB.out | apply below_alloc | apply pw_below_drewN | apply below_drew1 | refine below_set ?_ GE182.out) | exact HB.out))) : w.heap.size ≤ gb184)); have n4_ := Aside0.mk ((by rw [hg]; exact (below_size (by repeat (first | (with_reducible first | exact HB.out | apply below_alloc | apply pw_below_drewN | apply below_drew1 | refine below_set ?_ GE182.out) | exact HB.out))) : w.heap.size ≤ gb184)); have n5_ := Aside0.mk ((by rw [hg]; exact Nat.ne_of_lt (blk_lt (g := gb182) (o := .cells #[.int .i64 a0_0, .slice (some ad183) l0_1.length c0_1, .string a0_2] 34 (0, 0)) (by (with_reducible repeat (first | refine blk_drewN ?_ _ | refine blk_drew ?_ | refine blk_alloc ?_ _)); exact BK182.out)) : gb182 ≠ gb184)); have n6_ := Aside0.mk ((by rw [hg]; exact Nat.ne_of_gt (blk_lt (g := gb182) (o := .cells #[.int .i64 a0_0, .slice (some ad183) l0_1.length c0_1, .string a0_2] 34 (0, 0)) (by (with_reducible repeat (first | refine blk_drewN ?_ _ | refine blk_drew ?_ | refine blk_alloc ?_ _)); exact BK182.out)) : gb184 ≠ gb182)); clear BK182; clear HB; have BK182 := n0_; have HB := n1_; have BK184 := n2_; have GW184 := n3_; have GE184 := n4_; have NB182_184 := n5_; have NB184_182 := n6_; clear n0_ n1_ n2_ n3_ n4_ n5_ n6_; clear hb hbox hg; have hnb32 := NB184_182.out; have hnc32 := NB182_184.out; have hcz33_0 : w31.cell? ⟨gb184, 0, none⟩ = some (.string (⟨#[]⟩ : ByteArray)) := (blk_cell BK184.out 0).trans rfl; have hcz33_1 : w31.cell? ⟨gb184, 1, none⟩ = some (.string (⟨#[]⟩ : ByteArray)) := (blk_cell BK184.out 1).trans rfl; have hfz33_0 := blk_frozen BK184.out 0; have hfz33_1 := blk_frozen BK184.out 1) | (go_at_call 34; (with_reducible refine (magpieref04_Name.calls k2 ((rd_T47 l0_1 x29_2).f0) true _ A16.out).mono ?_); rintro e w' ⟨rfl, ⟨nd, rfl⟩⟩; (try first | exact ⟨rfl, _, World.drewN_drewN _ _ _⟩ | exact ⟨rfl, _, Eq.trans (World.drewN_drewN _ _ _) (congrArg (World.drewN _) (Nat.add_assoc _ _ _))⟩); have hcz34_0 : w31.cell? ⟨gb182, 0, none⟩ = some (.int .i64 a0_0) := (blk_cell BK182.out 0).trans rfl; have hcz34_1 : w31.cell? ⟨gb182, 1, none⟩ = some (.slice (some ad183) l0_1.length c0_1) := (blk_cell BK182.out 1).trans rfl; have hcz34_2 : w31.cell? ⟨gb182, 2, none⟩ = some (.string a0_2) := (blk_cell BK182.out 2).trans rfl; have hfz34_0 := blk_frozen BK182.out 0; have hfz34_1 := blk_frozen BK182.out 1; have hfz34_2 := blk_frozen BK182.out 2; have p186 : 0 ≤ ((ji23) : Int) := of_decide_eq_true (by first | (with_reducible assumption) | assumption); have q186 : (ji23) < (l0_1.length : Int) := of_decide_eq_true (by first | (with_reducible assumption) | assumption); obtain ⟨ad186, e186, hx186_0, hx186_1⟩ := at_T47 HR0_1.out (ji23) p186 q186; obtain rfl : ad183 = ad186 := (by injection e186); have hn186_0 : ad183.block ≠ gb184 := Nat.ne_of_lt (Nat.lt_of_lt_of_le (by have := World.block_lt_of_cell? _ _ hx186_0; first | rwa [add_block] at this | exact this) GW184.out); have hn186_1 : ad183.block ≠ gb184 := Nat.ne_of_lt (Nat.lt_of_lt_of_le (by have := World.block_lt_of_cell? _ _ hx186_0; first | rwa [add_block] at this | exact this) GW184.out); replace hx186_0 := (HB.out.cell (World.block_lt_of_cell? w _ hx186_0)).trans hx186_0; replace hx186_1 := (HB.out.cell (World.block_lt_of_cell? w _ hx186_1)).trans hx186_1; replace hx186_0 := (cell_far (p := ⟨gb184, 0, none⟩) (by first | (rw [add_block]; exact hn186_0) | (show (Addr.add _ _).block ≠ _; rw [add_block]; exact hn186_0) | exact hn186_0) (.string ((rd_T47 l0_1 x29_2).f0))).trans hx186_0; replace hx186_1 := (cell_far (p := ⟨gb184, 0, none⟩) (by first | (rw [add_block]; exact hn186_0) | (show (Addr.add _ _).block ≠ _; rw [add_block]; exact hn186_0) | exact hn186_0) (.string ((rd_T47 l0_1 x29_2).f0))).trans hx186_1; replace hx186_0 := (cell_far (p := ⟨gb184, 1, none⟩) (by first | (rw [add_block]; exact hn186_1) | (show (Addr.add _ _).block ≠ _; rw [add_block]; exact hn186_1) | exact hn186_1) (.string ((rd_T47 l0_1 x29_2).f1))).trans hx186_0; replace hx186_1 := (cell_far (p := ⟨gb184, 1, none⟩) (by first | (rw [add_block]; exact hn186_1) | (show (Addr.add _ _).block ≠ _; rw [add_block]; exact hn186_1) | exact hn186_1) (.string ((rd_T47 l0_1 x29_2).f1))).trans hx186_1; (try have hy186_0 := fun (n_ : Nat) => (show ((((w31.drewN n_).setCell ⟨gb184, 0, none⟩ (.string ((rd_T47 l0_1 x29_2).f0))).setCell ⟨gb184, 1, none⟩ (.string ((rd_T47 l0_1 x29_2).f1)))).cell? _ = some _ from hx186_0)); (try have hy186_1 := fun (n_ : Nat) => (show ((((w31.drewN n_).setCell ⟨gb184, 0, none⟩ (.string ((rd_T47 l0_1 x29_2).f0))).setCell ⟨gb184, 1, none⟩ (.string ((rd_T47 l0_1 x29_2).f1)))).cell? _ = some _ from hx186_1)); clear hn186_0; clear hn186_1; replace p186 := eq_true p186; replace q186 := eq_true q186))
                              repeat (go_quiet (first | ((with_reducible refine gate_dst (N := 4) rfl ?_); (try (refine gate_guard (by rfl) ?_; dsimp only)); refine box_event ?hg (N := 4) ?hd (cs := #[.string (⟨#[]⟩ : ByteArray), .string (⟨#[]⟩ : ByteArray)]) (t := 47) ?hr ?_; (case hd => rfl); (case hg => rfl); (case hr => first | (go_simp; done) | (go_simp; rfl)); intro gb184 hg w31 hbox hb; have n0_ := Aside0.mk (blk_below (g := gb182) (o := .cells #[.int .i64 a0_0, .slice (some ad183) l0_1.length c0_1, .string a0_2] 34 (0, 0)) (by (with_reducible repeat (first | refine blk_drewN ?_ _ | refine blk_drew ?_ | refine blk_alloc ?_ _)); exact BK182.out) hb); have n1_ := Aside0.mk (below_step (by repeat (first | (with_reducible first | exact HB.out | apply below_alloc | apply pw_below_drewN | apply below_drew1 | refine below_set ?_ GE182.out) | exact HB.out)) hb); have n2_ := Aside0.mk (hbox); have n3_ := Aside0.mk ((by rw [hg]; exact (below_size (by repeat (first | (with_reducible first | exact HB.out | apply below_alloc | apply pw_below_drewN | apply below_drew1 | refine below_set ?_ GE182.out) | exact HB.out))) : w.heap.size ≤ gb184)); have n4_ := Aside0.mk ((by rw [hg]; exact (below_size (by repeat (first | (with_reducible first | exact HB.out | apply below_alloc | apply pw_below_drewN | apply below_drew1 | refine below_set ?_ GE182.out) | exact HB.out))) : w.heap.size ≤ gb184)); have n5_ := Aside0.mk ((by rw [hg]; exact Nat.ne_of_lt (blk_lt (g := gb182) (o := .cells #[.int .i64 a0_0, .slice (some ad183) l0_1.length c0_1, .string a0_2] 34 (0, 0)) (by (with_reducible repeat (first | refine blk_drewN ?_ _ | refine blk_drew ?_ | refine blk_alloc ?_ _)); exact BK182.out)) : gb182 ≠ gb184)); have n6_ := Aside0.mk ((by rw [hg]; exact Nat.ne_of_gt (blk_lt (g := gb182) (o := .cells #[.int .i64 a0_0, .slice (some ad183) l0_1.length c0_1, .string a0_2] 34 (0, 0)) (by (with_reducible repeat (first | refine blk_drewN ?_ _ | refine blk_drew ?_ | refine blk_alloc ?_ _)); exact BK182.out)) : gb184 ≠ gb182)); clear BK182; clear HB; have BK182 := n0_; have HB := n1_; have BK184 := n2_; have GW184 := n3_; have GE184 := n4_; have NB182_184 := n5_; have NB184_182 := n6_; clear n0_ n1_ n2_ n3_ n4_ n5_ n6_; clear hb hbox hg; have hnb32 := NB184_182.out; have hnc32 := NB182_184.out; have hcz33_0 : w31.cell? ⟨gb184, 0, none⟩ = some (.string (⟨#[]⟩ : ByteArray)) := (blk_cell BK184.out 0).trans rfl; have hcz33_1 : w31.cell? ⟨gb184, 1, none⟩ = some (.string (⟨#[]⟩ : ByteArray)) := (blk_cell BK184.out 1).trans rfl; have hfz33_0 := blk_frozen BK184.out 0; have hfz33_1 := blk_frozen BK184.out 1) | (go_at_call 34; (with_reducible refine (magpieref04_Name.calls k2 ((rd_T47 l0_1 x29_2).f0) true _ A16.out).mono ?_); rintro e w' ⟨rfl, ⟨nd, rfl⟩⟩; (try first | exact ⟨rfl, _, World.drewN_drewN _ _ _⟩ | exact ⟨rfl, _, Eq.trans (World.drewN_drewN _ _ _) (congrArg (World.drewN _) (Nat.add_assoc _ _ _))⟩); have hcz34_0 : w31.cell? ⟨gb182, 0, none⟩ = some (.int .i64 a0_0) := (blk_cell BK182.out 0).trans rfl; have hcz34_1 : w31.cell? ⟨gb182, 1, none⟩ = some (.slice (some ad183) l0_1.length c0_1) := (blk_cell BK182.out 1).trans rfl; have hcz34_2 : w31.cell? ⟨gb182, 2, none⟩ = some (.string a0_2) := (blk_cell BK182.out 2).trans rfl; have hfz34_0 := blk_frozen BK182.out 0; have hfz34_1 := blk_frozen BK182.out 1; have hfz34_2 := blk_frozen BK182.out 2; have p186 : 0 ≤ ((ji23) : Int) := of_decide_eq_true (by first | (with_reducible assumption) | assumption); have q186 : (ji23) < (l0_1.length : Int) := of_decide_eq_true (by first | (with_reducible assumption) | assumption); obtain ⟨ad186, e186, hx186_0, hx186_1⟩ := at_T47 HR0_1.out (ji23) p186 q186; obtain rfl : ad183 = ad186 := (by injection e186); have hn186_0 : ad183.block ≠ gb184 := Nat.ne_of_lt (Nat.lt_of_lt_of_le (by have := World.block_lt_of_cell? _ _ hx186_0; first | rwa [add_block] at this | exact this) GW184.out); have hn186_1 : ad183.block ≠ gb184 := Nat.ne_of_lt (Nat.lt_of_lt_of_le (by have := World.block_lt_of_cell? _ _ hx186_0; first | rwa [add_block] at this | exact this) GW184.out); replace hx186_0 := (HB.out.cell (World.block_lt_of_cell? w _ hx186_0)).trans hx186_0; replace hx186_1 := (HB.out.cell (World.block_lt_of_cell? w _ hx186_1)).trans hx186_1; replace hx186_0 := (cell_far (p := ⟨gb184, 0, none⟩) (by first | (rw [add_block]; exact hn186_0) | (show (Addr.add _ _).block ≠ _; rw [add_block]; exact hn186_0) | exact hn186_0) (.string ((rd_T47 l0_1 x29_2).f0))).trans hx186_0; replace hx186_1 := (cell_far (p := ⟨gb184, 0, none⟩) (by first | (rw [add_block]; exact hn186_0) | (show (Addr.add _ _).block ≠ _; rw [add_block]; exact hn186_0) | exact hn186_0) (.string ((rd_T47 l0_1 x29_2).f0))).trans hx186_1; replace hx186_0 := (cell_far (p := ⟨gb184, 1, none⟩) (by first | (rw [add_block]; exact hn186_1) | (show (Addr.add _ _).block ≠ _; rw [add_block]; exact hn186_1) | exact hn186_1) (.string ((rd_T47 l0_1 x29_2).f1))).trans hx186_0; replace hx186_1 := (cell_far (p := ⟨gb184, 1, none⟩) (by first | (rw [add_block]; exact hn186_1) | (show (Addr.add _ _).block ≠ _; rw [add_block]; exact hn186_1) | exact hn186_1) (.string ((rd_T47 l0_1 x29_2).f1))).trans hx186_1; (try have hy186_0 := fun (n_ : Nat) => (show ((((w31.drewN n_).setCell ⟨gb184, 0, none⟩ (.string ((rd_T47 l0_1 x29_2).f0))).setCell ⟨gb184, 1, none⟩ (.string ((rd_T47 l0_1 x29_2).f1)))).cell? _ = some _ from hx186_0)); (try have hy186_1 := fun (n_ : Nat) => (show ((((w31.drewN n_).setCell ⟨gb184, 0, none⟩ (.string ((rd_T47 l0_1 x29_2).f0))).setCell ⟨gb184, 1, none⟩ (.string ((rd_T47 l0_1 x29_2).f1)))).cell? _ = some _ from hx186_1)); clear hn186_0; clear hn186_1; replace p186 := eq_true p186; replace q186 := eq_true q186)); try go_wp2_with (first | ((with_reducible refine gate_dst (N := 4) rfl ?_); (try (refine gate_guard (by rfl) ?_; dsimp only)); refine box_event ?hg (N := 4) ?hd (cs := #[.string (⟨#[]⟩ : ByteArray), .string (⟨#[]⟩ : ByteArray)]) (t := 47) ?hr ?_; (case hd => rfl); (case hg => rfl); (case hr => first | (go_simp; done) | (go_simp; rfl)); intro gb184 hg w31 hbox hb; have n0_ := Aside0.mk (blk_below (g := gb182) (o := .cells #[.int .i64 a0_0, .slice (some ad183) l0_1.length c0_1, .string a0_2] 34 (0, 0)) (by (with_reducible repeat (first | refine blk_drewN ?_ _ | refine blk_drew ?_ | refine blk_alloc ?_ _)); exact BK182.out) hb); have n1_ := Aside0.mk (below_step (by repeat (first | (with_reducible first | exact HB.out | apply below_alloc | apply pw_below_drewN | apply below_drew1 | refine below_set ?_ GE182.out) | exact HB.out)) hb); have n2_ := Aside0.mk (hbox); have n3_ := Aside0.mk ((by rw [hg]; exact (below_size (by repeat (first | (with_reducible first | exact HB.out | apply below_alloc | apply pw_below_drewN | apply below_drew1 | refine below_set ?_ GE182.out) | exact HB.out))) : w.heap.size ≤ gb184)); have n4_ := Aside0.mk ((by rw [hg]; exact (below_size (by repeat (first | (with_reducible first | exact HB.out | apply below_alloc | apply pw_below_drewN | apply below_drew1 | refine below_set ?_ GE182.out) | exact HB.out))) : w.heap.size ≤ gb184)); have n5_ := Aside0.mk ((by rw [hg]; exact Nat.ne_of_lt (blk_lt (g := gb182) (o := .cells #[.int .i64 a0_0, .slice (some ad183) l0_1.length c0_1, .string a0_2] 34 (0, 0)) (by (with_reducible repeat (first | refine blk_drewN ?_ _ | refine blk_drew ?_ | refine blk_alloc ?_ _)); exact BK182.out)) : gb182 ≠ gb184)); have n6_ := Aside0.mk ((by rw [hg]; exact Nat.ne_of_gt (blk_lt (g := gb182) (o := .cells #[.int .i64 a0_0, .slice (some ad183) l0_1.length c0_1, .string a0_2] 34 (0, 0)) (by (with_reducible repeat (first | refine blk_drewN ?_ _ | refine blk_drew ?_ | refine blk_alloc ?_ _)); exact BK182.out)) : gb184 ≠ gb182)); clear BK182; clear HB; have BK182 := n0_; have HB := n1_; have BK184 := n2_; have GW184 := n3_; have GE184 := n4_; have NB182_184 := n5_; have NB184_182 := n6_; clear n0_ n1_ n2_ n3_ n4_ n5_ n6_; clear hb hbox hg; have hnb32 := NB184_182.out; have hnc32 := NB182_184.out; have hcz33_0 : w31.cell? ⟨gb184, 0, none⟩ = some (.string (⟨#[]⟩ : ByteArray)) := (blk_cell BK184.out 0).trans rfl; have hcz33_1 : w31.cell? ⟨gb184, 1, none⟩ = some (.string (⟨#[]⟩ : ByteArray)) := (blk_cell BK184.out 1).trans rfl; have hfz33_0 := blk_frozen BK184.out 0; have hfz33_1 := blk_frozen BK184.out 1) | (go_at_call 34; (with_reducible refine (magpieref04_Name.calls k2 ((rd_T47 l0_1 x29_2).f0) true _ A16.out).mono ?_); rintro e w' ⟨rfl, ⟨nd, rfl⟩⟩; (try first | exact ⟨rfl, _, World.drewN_drewN _ _ _⟩ | exact ⟨rfl, _, Eq.trans (World.drewN_drewN _ _ _) (congrArg (World.drewN _) (Nat.add_assoc _ _ _))⟩); have hcz34_0 : w31.cell? ⟨gb182, 0, none⟩ = some (.int .i64 a0_0) := (blk_cell BK182.out 0).trans rfl; have hcz34_1 : w31.cell? ⟨gb182, 1, none⟩ = some (.slice (some ad183) l0_1.length c0_1) := (blk_cell BK182.out 1).trans rfl; have hcz34_2 : w31.cell? ⟨gb182, 2, none⟩ = some (.string a0_2) := (blk_cell BK182.out 2).trans rfl; have hfz34_0 := blk_frozen BK182.out 0; have hfz34_1 := blk_frozen BK182.out 1; have hfz34_2 := blk_frozen BK182.out 2; have p186 : 0 ≤ ((ji23) : Int) := of_decide_eq_true (by first | (with_reducible assumption) | assumption); have q186 : (ji23) < (l0_1.length : Int) := of_decide_eq_true (by first | (with_reducible assumption) | assumption); obtain ⟨ad186, e186, hx186_0, hx186_1⟩ := at_T47 HR0_1.out (ji23) p186 q186; obtain rfl : ad183 = ad186 := (by injection e186); have hn186_0 : ad183.block ≠ gb184 := Nat.ne_of_lt (Nat.lt_of_lt_of_le (by have := World.block_lt_of_cell? _ _ hx186_0; first | rwa [add_block] at this | exact this) GW184.out); have hn186_1 : ad183.block ≠ gb184 := Nat.ne_of_lt (Nat.lt_of_lt_of_le (by have := World.block_lt_of_cell? _ _ hx186_0; first | rwa [add_block] at this | exact this) GW184.out); replace hx186_0 := (HB.out.cell (World.block_lt_of_cell? w _ hx186_0)).trans hx186_0; replace hx186_1 := (HB.out.cell (World.block_lt_of_cell? w _ hx186_1)).trans hx186_1; replace hx186_0 := (cell_far (p := ⟨gb184, 0, none⟩) (by first | (rw [add_block]; exact hn186_0) | (show (Addr.add _ _).block ≠ _; rw [add_block]; exact hn186_0) | exact hn186_0) (.string ((rd_T47 l0_1 x29_2).f0))).trans hx186_0; replace hx186_1 := (cell_far (p := ⟨gb184, 0, none⟩) (by first | (rw [add_block]; exact hn186_0) | (show (Addr.add _ _).block ≠ _; rw [add_block]; exact hn186_0) | exact hn186_0) (.string ((rd_T47 l0_1 x29_2).f0))).trans hx186_1; replace hx186_0 := (cell_far (p := ⟨gb184, 1, none⟩) (by first | (rw [add_block]; exact hn186_1) | (show (Addr.add _ _).block ≠ _; rw [add_block]; exact hn186_1) | exact hn186_1) (.string ((rd_T47 l0_1 x29_2).f1))).trans hx186_0; replace hx186_1 := (cell_far (p := ⟨gb184, 1, none⟩) (by first | (rw [add_block]; exact hn186_1) | (show (Addr.add _ _).block ≠ _; rw [add_block]; exact hn186_1) | exact hn186_1) (.string ((rd_T47 l0_1 x29_2).f1))).trans hx186_1; (try have hy186_0 := fun (n_ : Nat) => (show ((((w31.drewN n_).setCell ⟨gb184, 0, none⟩ (.string ((rd_T47 l0_1 x29_2).f0))).setCell ⟨gb184, 1, none⟩ (.string ((rd_T47 l0_1 x29_2).f1)))).cell? _ = some _ from hx186_0)); (try have hy186_1 := fun (n_ : Nat) => (show ((((w31.drewN n_).setCell ⟨gb184, 0, none⟩ (.string ((rd_T47 l0_1 x29_2).f0))).setCell ⟨gb184, 1, none⟩ (.string ((rd_T47 l0_1 x29_2).f1)))).cell? _ = some _ from hx186_1)); clear hn186_0; clear hn186_1; replace p186 := eq_true p186; replace q186 := eq_true q186)))
                              go_ret
                              exact ⟨by first | rfl | (simp [errW_none, errW_some] <;> rfl) | (simp only [← hji23]; first | rfl | (simp [errW_none, errW_some] <;> rfl)) | (simp [*, errW_none, errW_some] <;> rfl), by repeat (first | (with_reducible first | exact HB.out | apply below_alloc | apply pw_below_drewN | apply below_drew1 | refine below_set ?_ GE182.out | refine below_set ?_ GE184.out) | exact HB.out)⟩
                          · rw [if_neg c25] at H
                            exact absurd H (by simp)
                        · rw [if_neg c24] at H
                          exact absurd H (by simp)
                      · rw [if_neg c22] at H
                        have c22b0 : decide (0 < x29_2) = false := decide_eq_false c22
                        clear c22
                        have H' := Aside0.mk H
                        clear H
                        have p183 : 0 ≤ (x29_2 : Int) := of_decide_eq_true (by first | (with_reducible assumption) | assumption)
                        have q183 : x29_2 < (l0_1.length : Int) := of_decide_eq_true (by first | (with_reducible assumption) | assumption)
                        obtain ⟨ad183, e183, hx183_0, hx183_1⟩ := at_T47 HR0_1.out x29_2 p183 q183
                        cases e183
                        replace hx183_0 := (HB.out.cell (World.block_lt_of_cell? w _ hx183_0)).trans hx183_0
                        replace hx183_1 := (HB.out.cell (World.block_lt_of_cell? w _ hx183_1)).trans hx183_1
                        replace p183 := eq_true p183
                        replace q183 := eq_true q183
                        go_wp2_with (first | ((with_reducible refine gate_dst (N := 4) rfl ?_); (try (refine gate_guard (by rfl) ?_; dsimp only)); refine box_event ?hg (N := 4) ?hd (cs := #[.string (⟨#[]⟩ : ByteArray), .string (⟨#[]⟩ : ByteArray)]) (t := 47) ?hr ?_; (case hd => rfl); (case hg => rfl); (case hr => first | (go_simp; done) | (go_simp; rfl)); intro gb184 hg w35 hbox hb; have n0_ := Aside0.mk (blk_below (g := gb182) (o := .cells #[.int .i64 a0_0, .slice (some ad183) l0_1.length c0_1, .string a0_2] 34 (0, 0)) (by (with_reducible repeat (first | refine blk_drewN ?_ _ | refine blk_drew ?_ | refine blk_alloc ?_ _)); exact BK182.out) hb); have n1_ := Aside0.mk (below_step (by repeat (first | (with_reducible first | exact HB.out | apply below_alloc | apply pw_below_drewN | apply below_drew1 | refine below_set ?_ GE182.out) | exact HB.out)) hb); have n2_ := Aside0.mk (hbox); have n3_ := Aside0.mk ((by rw [hg]; exact (below_size (by repeat (first | (with_reducible first | exact HB.out | apply below_alloc | apply pw_below_drewN | apply below_drew1 | refine below_set ?_ GE182.out) | exact HB.out))) : w.heap.size ≤ gb184)); have n4_ := Aside0.mk ((by rw [hg]; exact (below_size (by repeat (first | (with_reducible first | exact HB.out | apply below_alloc | apply pw_below_drewN | apply below_drew1 | refine below_set ?_ GE182.out) | exact HB.out))) : w.heap.size ≤ gb184)); have n5_ := Aside0.mk ((by rw [hg]; exact Nat.ne_of_lt (blk_lt (g := gb182) (o := .cells #[.int .i64 a0_0, .slice (some ad183) l0_1.length c0_1, .string a0_2] 34 (0, 0)) (by (with_reducible repeat (first | refine blk_drewN ?_ _ | refine blk_drew ?_ | refine blk_alloc ?_ _)); exact BK182.out)) : gb182 ≠ gb184)); have n6_ := Aside0.mk ((by rw [hg]; exact Nat.ne_of_gt (blk_lt (g := gb182) (o := .cells #[.int .i64 a0_0, .slice (some ad183) l0_1.length c0_1, .string a0_2] 34 (0, 0)) (by (with_reducible repeat (first | refine blk_drewN ?_ _ | refine blk_drew ?_ | refine blk_alloc ?_ _)); exact BK182.out)) : gb184 ≠ gb182)); clear BK182; clear HB; have BK182 := n0_; have HB := n1_; have BK184 := n2_; have GW184 := n3_; have GE184 := n4_; have NB182_184 := n5_; have NB184_182 := n6_; clear n0_ n1_ n2_ n3_ n4_ n5_ n6_; clear hb hbox hg; have hnb36 := NB184_182.out; have hnc36 := NB182_184.out; have hcz37_0 : w35.cell? ⟨gb184, 0, none⟩ = some (.string (⟨#[]⟩ : ByteArray)) := (blk_cell BK184.out 0).trans rfl; have hcz37_1 : w35.cell? ⟨gb184, 1, none⟩ = some (.string (⟨#[]⟩ : ByteArray)) := (blk_cell BK184.out 1).trans rfl; have hfz37_0 := blk_frozen BK184.out 0; have hfz37_1 := blk_frozen BK184.out 1) | (go_at_call 34; (with_reducible refine (magpieref04_Name.calls k2 ((rd_T47 l0_1 x29_2).f0) true _ A16.out).mono ?_); rintro e w' ⟨rfl, ⟨nd, rfl⟩⟩; (try first | exact ⟨rfl, _, World.drewN_drewN _ _ _⟩ | exact ⟨rfl, _, Eq.trans (World.drewN_drewN _ _ _) (congrArg (World.drewN _) (Nat.add_assoc _ _ _))⟩)))
                        repeat (go_quiet (first | ((with_reducible refine gate_dst (N := 4) rfl ?_); (try (refine gate_guard (by rfl) ?_; dsimp only)); refine box_event ?hg (N := 4) ?hd (cs := #[.string (⟨#[]⟩ : ByteArray), .string (⟨#[]⟩ : ByteArray)]) (t := 47) ?hr ?_; (case hd => rfl); (case hg => rfl); (case hr => first | (go_simp; done) | (go_simp; rfl)); intro gb184 hg w35 hbox hb; have n0_ := Aside0.mk (blk_below (g := gb182) (o := .cells #[.int .i64 a0_0, .slice (some ad183) l0_1.length c0_1, .string a0_2] 34 (0, 0)) (by (with_reducible repeat (first | refine blk_drewN ?_ _ | refine blk_drew ?_ | refine blk_alloc ?_ _)); exact BK182.out) hb); have n1_ := Aside0.mk (below_step (by repeat (first | (with_reducible first | exact HB.out | apply below_alloc | apply pw_below_drewN | apply below_drew1 | refine below_set ?_ GE182.out) | exact HB.out)) hb); have n2_ := Aside0.mk (hbox); have n3_ := Aside0.mk ((by rw [hg]; exact (below_size (by repeat (first | (with_reducible first | exact HB.out | apply below_alloc | apply pw_below_drewN | apply below_drew1 | refine below_set ?_ GE182.out) | exact HB.out))) : w.heap.size ≤ gb184)); have n4_ := Aside0.mk ((by rw [hg]; exact (below_size (by repeat (first | (with_reducible first | exact HB.out | apply below_alloc | apply pw_below_drewN | apply below_drew1 | refine below_set ?_ GE182.out) | exact HB.out))) : w.heap.size ≤ gb184)); have n5_ := Aside0.mk ((by rw [hg]; exact Nat.ne_of_lt (blk_lt (g := gb182) (o := .cells #[.int .i64 a0_0, .slice (some ad183) l0_1.length c0_1, .string a0_2] 34 (0, 0)) (by (with_reducible repeat (first | refine blk_drewN ?_ _ | refine blk_drew ?_ | refine blk_alloc ?_ _)); exact BK182.out)) : gb182 ≠ gb184)); have n6_ := Aside0.mk ((by rw [hg]; exact Nat.ne_of_gt (blk_lt (g := gb182) (o := .cells #[.int .i64 a0_0, .slice (some ad183) l0_1.length c0_1, .string a0_2] 34 (0, 0)) (by (with_reducible repeat (first | refine blk_drewN ?_ _ | refine blk_drew ?_ | refine blk_alloc ?_ _)); exact BK182.out)) : gb184 ≠ gb182)); clear BK182; clear HB; have BK182 := n0_; have HB := n1_; have BK184 := n2_; have GW184 := n3_; have GE184 := n4_; have NB182_184 := n5_; have NB184_182 := n6_; clear n0_ n1_ n2_ n3_ n4_ n5_ n6_; clear hb hbox hg; have hnb36 := NB184_182.out; have hnc36 := NB182_184.out; have hcz37_0 : w35.cell? ⟨gb184, 0, none⟩ = some (.string (⟨#[]⟩ : ByteArray)) := (blk_cell BK184.out 0).trans rfl; have hcz37_1 : w35.cell? ⟨gb184, 1, none⟩ = some (.string (⟨#[]⟩ : ByteArray)) := (blk_cell BK184.out 1).trans rfl; have hfz37_0 := blk_frozen BK184.out 0; have hfz37_1 := blk_frozen BK184.out 1) | (go_at_call 34; (with_reducible refine (magpieref04_Name.calls k2 ((rd_T47 l0_1 x29_2).f0) true _ A16.out).mono ?_); rintro e w' ⟨rfl, ⟨nd, rfl⟩⟩; (try first | exact ⟨rfl, _, World.drewN_drewN _ _ _⟩ | exact ⟨rfl, _, Eq.trans (World.drewN_drewN _ _ _) (congrArg (World.drewN _) (Nat.add_assoc _ _ _))⟩))); try go_wp2_with (first | ((with_reducible refine gate_dst (N := 4) rfl ?_); (try (refine gate_guard (by rfl) ?_; dsimp only)); refine box_event ?hg (N := 4) ?hd (cs := #[.string (⟨#[]⟩ : ByteArray), .string (⟨#[]⟩ : ByteArray)]) (t := 47) ?hr ?_; (case hd => rfl); (case hg => rfl); (case hr => first | (go_simp; done) | (go_simp; rfl)); intro gb184 hg w35 hbox hb; have n0_ := Aside0.mk (blk_below (g := gb182) (o := .cells #[.int .i64 a0_0, .slice (some ad183) l0_1.length c0_1, .string a0_2] 34 (0, 0)) (by (with_reducible repeat (first | refine blk_drewN ?_ _ | refine blk_drew ?_ | refine blk_alloc ?_ _)); exact BK182.out) hb); have n1_ := Aside0.mk (below_step (by repeat (first | (with_reducible first | exact HB.out | apply below_alloc | apply pw_below_drewN | apply below_drew1 | refine below_set ?_ GE182.out) | exact HB.out)) hb); have n2_ := Aside0.mk (hbox); have n3_ := Aside0.mk ((by rw [hg]; exact (below_size (by repeat (first | (with_reducible first | exact HB.out | apply below_alloc | apply pw_below_drewN | apply below_drew1 | refine below_set ?_ GE182.out) | exact HB.out))) : w.heap.size ≤ gb184)); have n4_ := Aside0.mk ((by rw [hg]; exact (below_size (by repeat (first | (with_reducible first | exact HB.out | apply below_alloc | apply pw_below_drewN | apply below_drew1 | refine below_set ?_ GE182.out) | exact HB.out))) : w.heap.size ≤ gb184)); have n5_ := Aside0.mk ((by rw [hg]; exact Nat.ne_of_lt (blk_lt (g := gb182) (o := .cells #[.int .i64 a0_0, .slice (some ad183) l0_1.length c0_1, .string a0_2] 34 (0, 0)) (by (with_reducible repeat (first | refine blk_drewN ?_ _ | refine blk_drew ?_ | refine blk_alloc ?_ _)); exact BK182.out)) : gb182 ≠ gb184)); have n6_ := Aside0.mk ((by rw [hg]; exact Nat.ne_of_gt (blk_lt (g := gb182) (o := .cells #[.int .i64 a0_0, .slice (some ad183) l0_1.length c0_1, .string a0_2] 34 (0, 0)) (by (with_reducible repeat (first | refine blk_drewN ?_ _ | refine blk_drew ?_ | refine blk_alloc ?_ _)); exact BK182.out)) : gb184 ≠ gb182)); clear BK182; clear HB; have BK182 := n0_; have HB := n1_; have BK184 := n2_; have GW184 := n3_; have GE184 := n4_; have NB182_184 := n5_; have NB184_182 := n6_; clear n0_ n1_ n2_ n3_ n4_ n5_ n6_; clear hb hbox hg; have hnb36 := NB184_182.out; have hnc36 := NB182_184.out; have hcz37_0 : w35.cell? ⟨gb184, 0, none⟩ = some (.string (⟨#[]⟩ : ByteArray)) := (blk_cell BK184.out 0).trans rfl; have hcz37_1 : w35.cell? ⟨gb184, 1, none⟩ = some (.string (⟨#[]⟩ : ByteArray)) := (blk_cell BK184.out 1).trans rfl; have hfz37_0 := blk_frozen BK184.out 0; have hfz37_1 := blk_frozen BK184.out 1) | (go_at_call 34; (with_reducible refine (magpieref04_Name.calls k2 ((rd_T47 l0_1 x29_2).f0) true _ A16.out).mono ?_); rintro e w' ⟨rfl, ⟨nd, rfl⟩⟩; (try first | exact ⟨rfl, _, World.drewN_drewN _ _ _⟩ | exact ⟨rfl, _, Eq.trans (World.drewN_drewN _ _ _) (congrArg (World.drewN _) (Nat.add_assoc _ _ _))⟩))))
                        go_roundg k2
                        case measure => have := HJ1.out; have := HK2.out; omega
                        case rel => exact ⟨(wrap64 (x29_2 + 1)), (by first | rfl | (simp; done) | (simp [*]; done)), H', ⟨by have := HJ1.out; have := HK2.out; omega⟩, ⟨by (with_reducible repeat (first | refine blk_drewN ?_ _ | refine blk_drew ?_ | refine blk_alloc ?_ _)); refine blk_far ?_ NB182_184.out _; (with_reducible repeat (first | refine blk_drewN ?_ _ | refine blk_drew ?_ | refine blk_alloc ?_ _)); refine blk_far ?_ NB182_184.out _; (with_reducible repeat (first | refine blk_drewN ?_ _ | refine blk_drew ?_ | refine blk_alloc ?_ _)); exact BK182.out⟩, ⟨by repeat (first | (with_reducible first | exact HB.out | apply below_alloc | apply pw_below_drewN | apply below_drew1 | refine below_set ?_ GE182.out | refine below_set ?_ GE184.out) | exact HB.out)⟩⟩
                  · replace c17 := Bool.eq_false_iff.mpr c17
                    subst c17
                    have H1 : (some false) = some r := by rw [if_neg (show ¬ (false = true) by decide)] at H; exact H
                    clear H
                    have H := H1
                    clear H1
                    obtain rfl := Option.some.inj H
                    have p183 : 0 ≤ (x29_2 : Int) := of_decide_eq_true (by first | (with_reducible assumption) | assumption)
                    have q183 : x29_2 < (l0_1.length : Int) := of_decide_eq_true (by first | (with_reducible assumption) | assumption)
                    obtain ⟨ad183, e183, hx183_0, hx183_1⟩ := at_T47 HR0_1.out x29_2 p183 q183
                    cases e183
                    replace hx183_0 := (HB.out.cell (World.block_lt_of_cell? w _ hx183_0)).trans hx183_0
                    replace hx183_1 := (HB.out.cell (World.block_lt_of_cell? w _ hx183_1)).trans hx183_1
                    replace p183 := eq_true p183
                    replace q183 := eq_true q183
                    go_wp2_with (first | ((with_reducible refine gate_dst (N := 4) rfl ?_); (try (refine gate_guard (by rfl) ?_; dsimp only)); refine box_event ?hg (N := 4) ?hd (cs := #[.string (⟨#[]⟩ : ByteArray), .string (⟨#[]⟩ : ByteArray)]) (t := 47) ?hr ?_; (case hd => rfl); (case hg => rfl); (case hr => first | (go_simp; done) | (go_simp; rfl)); intro gb184 hg w38 hbox hb; have n0_ := Aside0.mk (blk_below (g := gb182) (o := .cells #[.int .i64 a0_0, .slice (some ad183) l0_1.length c0_1, .string a0_2] 34 (0, 0)) (by (with_reducible repeat (first | refine blk_drewN ?_ _ | refine blk_drew ?_ | refine blk_alloc ?_ _)); exact BK182.out) hb); have n1_ := Aside0.mk (below_step (by repeat (first | (with_reducible first | exact HB.out | apply below_alloc | apply pw_below_drewN | apply below_drew1 | refine below_set ?_ GE182.out) | exact HB.out)) hb); have n2_ := Aside0.mk (hbox); have n3_ := Aside0.mk ((by rw [hg]; exact (below_size (by repeat (first | (with_reducible first | exact HB.out | apply below_alloc | apply pw_below_drewN | apply below_drew1 | refine below_set ?_ GE182.out) | exact HB.out))) : w.heap.size ≤ gb184)); have n4_ := Aside0.mk ((by rw [hg]; exact (below_size (by repeat (first | (with_reducible first | exact HB.out | apply below_alloc | apply pw_below_drewN | apply below_drew1 | refine below_set ?_ GE182.out) | exact HB.out))) : w.heap.size ≤ gb184)); have n5_ := Aside0.mk ((by rw [hg]; exact Nat.ne_of_lt (blk_lt (g := gb182) (o := .cells #[.int .i64 a0_0, .slice (some ad183) l0_1.length c0_1, .string a0_2] 34 (0, 0)) (by (with_reducible repeat (first | refine blk_drewN ?_ _ | refine blk_drew ?_ | refine blk_alloc ?_ _)); exact BK182.out)) : gb182 ≠ gb184)); have n6_ := Aside0.mk ((by rw [hg]; exact Nat.ne_of_gt (blk_lt (g := gb182) (o := .cells #[.int .i64 a0_0, .slice (some ad183) l0_1.length c0_1, .string a0_2] 34 (0, 0)) (by (with_reducible repeat (first | refine blk_drewN ?_ _ | refine blk_drew ?_ | refine blk_alloc ?_ _)); exact BK182.out)) : gb184 ≠ gb182)); clear BK182; clear HB; have BK182 := n0_; have HB := n1_; have BK184 := n2_; have GW184 := n3_; have GE184 := n4_; have NB182_184 := n5_; have NB184_182 := n6_; clear n0_ n1_ n2_ n3_ n4_ n5_ n6_; clear hb hbox hg; have hnb39 := NB184_182.out; have hnc39 := NB182_184.out; have hcz40_0 : w38.cell? ⟨gb184, 0, none⟩ = some (.string (⟨#[]⟩ : ByteArray)) := (blk_cell BK184.out 0).trans rfl; have hcz40_1 : w38.cell? ⟨gb184, 1, none⟩ = some (.string (⟨#[]⟩ : ByteArray)) := (blk_cell BK184.out 1).trans rfl; have hfz40_0 := blk_frozen BK184.out 0; have hfz40_1 := blk_frozen BK184.out 1) | (go_at_call 34; (with_reducible refine (magpieref04_Name.calls k2 ((rd_T47 l0_1 x29_2).f0) false _ A16.out).mono ?_); rintro e w' ⟨rfl, ⟨nd, rfl⟩⟩; (try first | exact ⟨rfl, _, World.drewN_drewN _ _ _⟩ | exact ⟨rfl, _, Eq.trans (World.drewN_drewN _ _ _) (congrArg (World.drewN _) (Nat.add_assoc _ _ _))⟩)))
                    repeat (go_quiet (first | ((with_reducible refine gate_dst (N := 4) rfl ?_); (try (refine gate_guard (by rfl) ?_; dsimp only)); refine box_event ?hg (N := 4) ?hd (cs := #[.string (⟨#[]⟩ : ByteArray), .string (⟨#[]⟩ : ByteArray)]) (t := 47) ?hr ?_; (case hd => rfl); (case hg => rfl); (case hr => first | (go_simp; done) | (go_simp; rfl)); intro gb184 hg w38 hbox hb; have n0_ := Aside0.mk (blk_below (g := gb182) (o := .cells #[.int .i64 a0_0, .slice (some ad183) l0_1.length c0_1, .string a0_2] 34 (0, 0)) (by (with_reducible repeat (first | refine blk_drewN ?_ _ | refine blk_drew ?_ | refine blk_alloc ?_ _)); exact BK182.out) hb); have n1_ := Aside0.mk (below_step (by repeat (first | (with_reducible first | exact HB.out | apply below_alloc | apply pw_below_drewN | apply below_drew1 | refine below_set ?_ GE182.out) | exact HB.out)) hb); have n2_ := Aside0.mk (hbox); have n3_ := Aside0.mk ((by rw [hg]; exact (below_size (by repeat (first | (with_reducible first | exact HB.out | apply below_alloc | apply pw_below_drewN | apply below_drew1 | refine below_set ?_ GE182.out) | exact HB.out))) : w.heap.size ≤ gb184)); have n4_ := Aside0.mk ((by rw [hg]; exact (below_size (by repeat (first | (with_reducible first | exact HB.out | apply below_alloc | apply pw_below_drewN | apply below_drew1 | refine below_set ?_ GE182.out) | exact HB.out))) : w.heap.size ≤ gb184)); have n5_ := Aside0.mk ((by rw [hg]; exact Nat.ne_of_lt (blk_lt (g := gb182) (o := .cells #[.int .i64 a0_0, .slice (some ad183) l0_1.length c0_1, .string a0_2] 34 (0, 0)) (by (with_reducible repeat (first | refine blk_drewN ?_ _ | refine blk_drew ?_ | refine blk_alloc ?_ _)); exact BK182.out)) : gb182 ≠ gb184)); have n6_ := Aside0.mk ((by rw [hg]; exact Nat.ne_of_gt (blk_lt (g := gb182) (o := .cells #[.int .i64 a0_0, .slice (some ad183) l0_1.length c0_1, .string a0_2] 34 (0, 0)) (by (with_reducible repeat (first | refine blk_drewN ?_ _ | refine blk_drew ?_ | refine blk_alloc ?_ _)); exact BK182.out)) : gb184 ≠ gb182)); clear BK182; clear HB; have BK182 := n0_; have HB := n1_; have BK184 := n2_; have GW184 := n3_; have GE184 := n4_; have NB182_184 := n5_; have NB184_182 := n6_; clear n0_ n1_ n2_ n3_ n4_ n5_ n6_; clear hb hbox hg; have hnb39 := NB184_182.out; have hnc39 := NB182_184.out; have hcz40_0 : w38.cell? ⟨gb184, 0, none⟩ = some (.string (⟨#[]⟩ : ByteArray)) := (blk_cell BK184.out 0).trans rfl; have hcz40_1 : w38.cell? ⟨gb184, 1, none⟩ = some (.string (⟨#[]⟩ : ByteArray)) := (blk_cell BK184.out 1).trans rfl; have hfz40_0 := blk_frozen BK184.out 0; have hfz40_1 := blk_frozen BK184.out 1) | (go_at_call 34; (with_reducible refine (magpieref04_Name.calls k2 ((rd_T47 l0_1 x29_2).f0) false _ A16.out).mono ?_); rintro e w' ⟨rfl, ⟨nd, rfl⟩⟩; (try first | exact ⟨rfl, _, World.drewN_drewN _ _ _⟩ | exact ⟨rfl, _, Eq.trans (World.drewN_drewN _ _ _) (congrArg (World.drewN _) (Nat.add_assoc _ _ _))⟩))); try go_wp2_with (first | ((with_reducible refine gate_dst (N := 4) rfl ?_); (try (refine gate_guard (by rfl) ?_; dsimp only)); refine box_event ?hg (N := 4) ?hd (cs := #[.string (⟨#[]⟩ : ByteArray), .string (⟨#[]⟩ : ByteArray)]) (t := 47) ?hr ?_; (case hd => rfl); (case hg => rfl); (case hr => first | (go_simp; done) | (go_simp; rfl)); intro gb184 hg w38 hbox hb; have n0_ := Aside0.mk (blk_below (g := gb182) (o := .cells #[.int .i64 a0_0, .slice (some ad183) l0_1.length c0_1, .string a0_2] 34 (0, 0)) (by (with_reducible repeat (first | refine blk_drewN ?_ _ | refine blk_drew ?_ | refine blk_alloc ?_ _)); exact BK182.out) hb); have n1_ := Aside0.mk (below_step (by repeat (first | (with_reducible first | exact HB.out | apply below_alloc | apply pw_below_drewN | apply below_drew1 | refine below_set ?_ GE182.out) | exact HB.out)) hb); have n2_ := Aside0.mk (hbox); have n3_ := Aside0.mk ((by rw [hg]; exact (below_size (by repeat (first | (with_reducible first | exact HB.out | apply below_alloc | apply pw_below_drewN | apply below_drew1 | refine below_set ?_ GE182.out) | exact HB.out))) : w.heap.size ≤ gb184)); have n4_ := Aside0.mk ((by rw [hg]; exact (below_size (by repeat (first | (with_reducible first | exact HB.out | apply below_alloc | apply pw_below_drewN | apply below_drew1 | refine below_set ?_ GE182.out) | exact HB.out))) : w.heap.size ≤ gb184)); have n5_ := Aside0.mk ((by rw [hg]; exact Nat.ne_of_lt (blk_lt (g := gb182) (o := .cells #[.int .i64 a0_0, .slice (some ad183) l0_1.length c0_1, .string a0_2] 34 (0, 0)) (by (with_reducible repeat (first | refine blk_drewN ?_ _ | refine blk_drew ?_ | refine blk_alloc ?_ _)); exact BK182.out)) : gb182 ≠ gb184)); have n6_ := Aside0.mk ((by rw [hg]; exact Nat.ne_of_gt (blk_lt (g := gb182) (o := .cells #[.int .i64 a0_0, .slice (some ad183) l0_1.length c0_1, .string a0_2] 34 (0, 0)) (by (with_reducible repeat (first | refine blk_drewN ?_ _ | refine blk_drew ?_ | refine blk_alloc ?_ _)); exact BK182.out)) : gb184 ≠ gb182)); clear BK182; clear HB; have BK182 := n0_; have HB := n1_; have BK184 := n2_; have GW184 := n3_; have GE184 := n4_; have NB182_184 := n5_; have NB184_182 := n6_; clear n0_ n1_ n2_ n3_ n4_ n5_ n6_; clear hb hbox hg; have hnb39 := NB184_182.out; have hnc39 := NB182_184.out; have hcz40_0 : w38.cell? ⟨gb184, 0, none⟩ = some (.string (⟨#[]⟩ : ByteArray)) := (blk_cell BK184.out 0).trans rfl; have hcz40_1 : w38.cell? ⟨gb184, 1, none⟩ = some (.string (⟨#[]⟩ : ByteArray)) := (blk_cell BK184.out 1).trans rfl; have hfz40_0 := blk_frozen BK184.out 0; have hfz40_1 := blk_frozen BK184.out 1) | (go_at_call 34; (with_reducible refine (magpieref04_Name.calls k2 ((rd_T47 l0_1 x29_2).f0) false _ A16.out).mono ?_); rintro e w' ⟨rfl, ⟨nd, rfl⟩⟩; (try first | exact ⟨rfl, _, World.drewN_drewN _ _ _⟩ | exact ⟨rfl, _, Eq.trans (World.drewN_drewN _ _ _) (congrArg (World.drewN _) (Nat.add_assoc _ _ _))⟩))))
                    go_ret
                    exact ⟨by first | rfl | (simp [errW_none, errW_some] <;> rfl) | (simp [*, errW_none, errW_some] <;> rfl), by repeat (first | (with_reducible first | exact HB.out | apply below_alloc | apply pw_below_drewN | apply below_drew1 | refine below_set ?_ GE182.out | refine below_set ?_ GE184.out) | exact HB.out)⟩
                · rw [if_neg c15] at H
                  exact absurd H (by simp)
              · rw [if_neg c14] at H
                exact absurd H (by simp)
            · rw [if_neg c13] at H
              have c13b0 : decide (x29_2 < (l0_1.length : Int)) = false := decide_eq_false c13
              clear c13
              have H' := Aside0.mk H
              clear H
              go_wp2
              repeat (go_quiet (fail); try go_wp2)
              go_loopg [5] k2 (fun kq v5 w' => ∃ (x5_3 : Int), v5 = .int .i64 x5_3 ∧ Aside0 (magpieref04_Good.l1 kq x5_3 a0_0 l0_1 a0_2 = some r) ∧ Aside0 (kq ≤ k2) ∧ Aside0 (w'.heap[gb182]? = some (.cells #[.int .i64 a0_0, (.slice A0_1 l0_1.length c0_1), .string a0_2] 34 (0, 0))) ∧ Aside0 (Below w.heap.size w w'))
              case atStart => exact ⟨(0), (by first | rfl | (simp; done) | (simp [*]; done)), H', ⟨Nat.le_refl _⟩, ⟨by (with_reducible repeat (first | refine blk_drewN ?_ _ | refine blk_drew ?_ | refine blk_alloc ?_ _)); exact BK182.out⟩, ⟨by repeat (first | (with_reducible first | exact HB.out | apply below_alloc | apply pw_below_drewN | apply below_drew1 | refine below_set ?_ GE182.out) | exact HB.out)⟩⟩
              case round =>
                clear H'
                try clear c1
                try clear p1
                try clear q1
                try clear hx1
                try clear c2
                try clear p2
                try clear c3
                try clear c4
                try clear c4b0
                try clear c6
                try clear c6b0
                try clear p6
                try clear c8
                try clear c8b0
                try clear c8b1
                try clear c11
                try clear c13
                try clear c13b0
                try clear c14
                try clear c14b0
                try clear c15
                try clear c15b0
                try clear c17
                try clear c18
                try clear c18b0
                try clear c18b1
                try clear p18
                try clear q18
                try clear hx18
                try clear c20
                try clear c22
                try clear c22b0
                try clear c24
                try clear c24b0
                try clear c25
                try clear c25b0
                try clear c26
                try clear c26b0
                try clear c28
                try clear c32
                try clear c33
                try clear c36
                try clear c39
                try clear hcz10_0
                try clear hcz10_1
                try clear hcz10_2
                try clear hcz12_0
                try clear hcz12_1
                try clear hcz12_2
                try clear hcz21_0
                try clear hcz21_1
                try clear hcz29_0
                try clear hcz29_1
                try clear hcz30_0
                try clear hcz30_1
                try clear hcz30_2
                try clear hcz33_0
                try clear hcz33_1
                try clear hcz34_0
                try clear hcz34_1
                try clear hcz34_2
                try clear hcz37_0
                try clear hcz37_1
                try clear hcz40_0
                try clear hcz40_1
                try clear hcz5_0
                try clear hcz5_1
                try clear hcz5_2
                try clear hcz7_0
                try clear hcz7_1
                try clear hcz7_2
                try clear hcz9_0
                try clear hcz9_1
                try clear hcz9_2
                try clear hfz10_0
                try clear hfz10_1
                try clear hfz10_2
                try clear hfz12_0
                try clear hfz12_1
                try clear hfz12_2
                try clear hfz21_0
                try clear hfz21_1
                try clear hfz29_0
                try clear hfz29_1
                try clear hfz30_0
                try clear hfz30_1
                try clear hfz30_2
                try clear hfz33_0
                try clear hfz33_1
                try clear hfz34_0
                try clear hfz34_1
                try clear hfz34_2
                try clear hfz37_0
                try clear hfz37_1
                try clear hfz40_0
                try clear hfz40_1
                try clear hfz5_0
                try clear hfz5_1
                try clear hfz5_2
                try clear hfz7_0
                try clear hfz7_1
                try clear hfz7_2
                try clear hfz9_0
                try clear hfz9_1
                try clear hfz9_2
                try clear hx183_0
                try clear hx183_1
                try clear hx186_0
                try clear hx186_1
                try clear p183
                try clear p186
                try clear p2
                try clear q183
                try clear q186
                obtain ⟨x5_3, rfl, HA, HK3, BK182, HB⟩ := hrel
                cases gk with
                | zero => exact absurd HA.out (by simp [magpieref04_Good.l1])
                | succ k3 =>
                  have H := HA.out
                  clear HA
                  simp only [magpieref04_Good.l1] at H
                  by_cases c41 : x5_3 < (a0_2.size : Int)
                  · rw [if_pos c41] at H
                    have c41b0 : decide (x5_3 < (a0_2.size : Int)) = true := decide_eq_true c41
                    clear c41
                    by_cases c42 : 0 ≤ x5_3
                    · rw [if_pos c42] at H
                      have c42b0 : decide (0 ≤ x5_3) = true := decide_eq_true c42
                      clear c42
                      by_cases c44 : (bt a0_2 x5_3) = 10
                      · rw [if_pos c44] at H
                        have c44b0 : ((bt a0_2 x5_3) == 10) = true := beq_iff_eq.mpr c44
                        have c44b1 : ((bt a0_2 x5_3) != 10) = false := bne_eq_false_iff_eq.mpr c44
                        clear c44
                        obtain rfl := Option.some.inj H
                        have hcz45_0 : wr.cell? ⟨gb182, 0, none⟩ = some (.int .i64 a0_0) := (blk_cell BK182.out 0).trans rfl
                        have hcz45_1 : wr.cell? ⟨gb182, 1, none⟩ = some (.slice A0_1 l0_1.length c0_1) := (blk_cell BK182.out 1).trans rfl
                        have hcz45_2 : wr.cell? ⟨gb182, 2, none⟩ = some (.string a0_2) := (blk_cell BK182.out 2).trans rfl
                        have hfz45_0 := blk_frozen BK182.out 0
                        have hfz45_1 := blk_frozen BK182.out 1
                        have hfz45_2 := blk_frozen BK182.out 2
                        have p43 : 0 ≤ (x5_3 : Int) := of_decide_eq_true (by first | (with_reducible assumption) | assumption)
                        have q43 : x5_3 < (a0_2.size : Int) := of_decide_eq_true (by first | (with_reducible assumption) | assumption)
                        have hx43 := bt_at a0_2 x5_3
                        replace p43 := eq_true p43
                        replace q43 := eq_true q43
                        go_wp2
                        repeat (go_quiet (fail); try go_wp2)
                        go_ret
                        exact ⟨by first | rfl | (simp [errW_none, errW_some] <;> rfl) | (simp [*, errW_none, errW_some] <;> rfl), by repeat (first | (with_reducible first | exact HB.out | apply below_alloc | apply pw_below_drewN | apply below_drew1 | refine below_set ?_ GE182.out) | exact HB.out)⟩
                      · rw [if_neg c44] at H
                        have c44b0 : ((bt a0_2 x5_3) == 10) = false := beq_eq_false_iff_ne.mpr c44
                        have c44b1 : ((bt a0_2 x5_3) != 10) = true := bne_iff_ne.mpr c44
                        have H' := Aside0.mk H
                        clear H
                        have hcz46_0 : wr.cell? ⟨gb182, 0, none⟩ = some (.int .i64 a0_0) := (blk_cell BK182.out 0).trans rfl
                        have hcz46_1 : wr.cell? ⟨gb182, 1, none⟩ = some (.slice A0_1 l0_1.length c0_1) := (blk_cell BK182.out 1).trans rfl
                        have hcz46_2 : wr.cell? ⟨gb182, 2, none⟩ = some (.string a0_2) := (blk_cell BK182.out 2).trans rfl
                        have hfz46_0 := blk_frozen BK182.out 0
                        have hfz46_1 := blk_frozen BK182.out 1
                        have hfz46_2 := blk_frozen BK182.out 2
                        have p43 : 0 ≤ (x5_3 : Int) := of_decide_eq_true (by first | (with_reducible assumption) | assumption)
                        have q43 : x5_3 < (a0_2.size : Int) := of_decide_eq_true (by first | (with_reducible assumption) | assumption)
                        have hx43 := bt_at a0_2 x5_3
                        replace p43 := eq_true p43
                        replace q43 := eq_true q43
                        go_wp2
                        repeat (go_quiet (fail); try go_wp2)
                        go_roundg k3
                        case measure => have := HJ1.out; have := HK2.out; have := HK3.out; omega
                        case rel => exact ⟨(wrap64 (x5_3 + 1)), (by first | rfl | (simp; done) | (simp [*]; done)), H', ⟨by have := HJ1.out; have := HK2.out; have := HK3.out; omega⟩, ⟨by (with_reducible repeat (first | refine blk_drewN ?_ _ | refine blk_drew ?_ | refine blk_alloc ?_ _)); exact BK182.out⟩, ⟨by repeat (first | (with_reducible first | exact HB.out | apply below_alloc | apply pw_below_drewN | apply below_drew1 | refine below_set ?_ GE182.out) | exact HB.out)⟩⟩
                    · rw [if_neg c42] at H
                      exact absurd H (by simp)
                  · rw [if_neg c41] at H
                    have c41b0 : decide (x5_3 < (a0_2.size : Int)) = false := decide_eq_false c41
                    clear c41
                    obtain rfl := Option.some.inj H
                    have hcz47_0 : wr.cell? ⟨gb182, 0, none⟩ = some (.int .i64 a0_0) := (blk_cell BK182.out 0).trans rfl
                    have hcz47_1 : wr.cell? ⟨gb182, 1, none⟩ = some (.slice A0_1 l0_1.length c0_1) := (blk_cell BK182.out 1).trans rfl
                    have hcz47_2 : wr.cell? ⟨gb182, 2, none⟩ = some (.string a0_2) := (blk_cell BK182.out 2).trans rfl
                    have hfz47_0 := blk_frozen BK182.out 0
                    have hfz47_1 := blk_frozen BK182.out 1
                    have hfz47_2 := blk_frozen BK182.out 2
                    go_wp2
                    repeat (go_quiet (fail); try go_wp2)
                    go_ret
                    exact ⟨by first | rfl | (simp [errW_none, errW_some] <;> rfl) | (simp [*, errW_none, errW_some] <;> rfl), by repeat (first | (with_reducible first | exact HB.out | apply below_alloc | apply pw_below_drewN | apply below_drew1 | refine below_set ?_ GE182.out) | exact HB.out)⟩
end Go.Proofs.Ytfejjfbhlmjkeaa.PRecordIs
end
