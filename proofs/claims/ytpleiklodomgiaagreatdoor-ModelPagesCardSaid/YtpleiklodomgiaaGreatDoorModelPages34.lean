import Derived.Test.YtpleiklodomgiaaGreatDoorModelPages9
set_option linter.unusedVariables false
set_option linter.unusedSimpArgs false
section
namespace Go.Proofs.YtpleiklodomgiaaGreatDoor.PModelIs
open Go.RowKit Go.Proofs.YtpleiklodomgiaaGreatDoorW.PrintWords Go.Proofs.YtpleiklodomgiaaGreatDoorW.PrintLast Go.Proofs.YtpleiklodomgiaaGreatDoorW.PrintMore
attribute [local go_sem] max2_int min2_int max_two min_two max_three min_three max_four min_four
mutual
def magpieref04_Before.l0 : Nat → Int → Int → List (S54) → ByteArray → Int → List (S54) → ByteArray → Option (Bool)
 | 0, _, _, _, _, _, _, _ => none
 | k + 1, x5, x253000, x253001, x253002, x254000, x254001, x254002 => if x5 < (x253001.length : Int) then (magpieref04_Before.j1 k x5 (decide (x5 < (x254001.length : Int))) x253000 x253001 x253002 x254000 x254001 x254002) else (magpieref04_Before.j1 k x5 false x253000 x253001 x253002 x254000 x254001 x254002)
def magpieref04_Before.j1 : Nat → Int → Bool → Int → List (S54) → ByteArray → Int → List (S54) → ByteArray → Option (Bool)
 | 0, _, _, _, _, _, _, _, _ => none
 | k + 1, x5, x29, x253000, x253001, x253002, x254000, x254001, x254002 => if x29 = true then (if 0 ≤ x5 then (if x5 < (x253001.length : Int) then (if x5 < (x254001.length : Int) then (if ((rd_T54 x253001 x5).f0).toList = ((rd_T54 x254001 x5).f0).toList then (if ((rd_T54 x253001 x5).f1).toList = ((rd_T54 x254001 x5).f1).toList then (magpieref04_Before.l0 k (wrap64 (x5 + 1)) x253000 x253001 x253002 x254000 x254001 x254002) else (some (Op.bytesLess (((rd_T54 x253001 x5).f1).toList) (((rd_T54 x254001 x5).f1).toList)))) else (some (Op.bytesLess (((rd_T54 x253001 x5).f0).toList) (((rd_T54 x254001 x5).f0).toList)))) else (none)) else (none)) else (none)) else (if (x253001.length : Int) = (x254001.length : Int) then (some (Op.bytesLess x253002.toList x254002.toList)) else (some (decide ((x253001.length : Int) < (x254001.length : Int)))))
end
def magpieref04_Before.f (k : Nat) (a0_0 : Int) (l0_1 : List (S54)) (a0_2 : ByteArray) (a1_0 : Int) (l1_1 : List (S54)) (a1_2 : ByteArray) : Option (Bool) := if a0_0 = a1_0 then (magpieref04_Before.l0 k 0 a0_0 l0_1 a0_2 a1_0 l1_1 a1_2) else (some (decide (a0_0 < a1_0)))
theorem magpieref04_Before.mono_l : ∀ k, (∀ y0 y1 y2 y3 y4 y5 y6, LeO (magpieref04_Before.l0 k y0 y1 y2 y3 y4 y5 y6) (magpieref04_Before.l0 (k + 1) y0 y1 y2 y3 y4 y5 y6)) ∧ (∀ y0 y1 y2 y3 y4 y5 y6 y7, LeO (magpieref04_Before.j1 k y0 y1 y2 y3 y4 y5 y6 y7) (magpieref04_Before.j1 (k + 1) y0 y1 y2 y3 y4 y5 y6 y7))
 | 0 => ⟨fun _ _ _ _ _ _ _ r h => by simp [magpieref04_Before.l0] at h, fun _ _ _ _ _ _ _ _ r h => by simp [magpieref04_Before.j1] at h⟩
 | k + 1 => by
  obtain ⟨ih0, ih1⟩ := magpieref04_Before.mono_l k
  refine ⟨?_, ?_⟩
  ·intro y0 y1 y2 y3 y4 y5 y6
   unfold magpieref04_Before.l0
   repeat' first
   | (with_reducible exact ih0 _ _ _ _ _ _ _)
   | (with_reducible exact ih1 _ _ _ _ _ _ _ _)
   | (with_reducible exact LeO.refl _)
   | (with_reducible exact LeO.none _)
   | (with_reducible refine LeO.ite ?_ ?_)
   | (with_reducible refine LeO.bind ?_ (fun _ => ?_))
   | exact ih0 _ _ _ _ _ _ _
   | exact ih1 _ _ _ _ _ _ _ _
   | exact LeO.none _
   | refine LeO.ite ?_ ?_
   | refine LeO.bind ?_ (fun _ => ?_)
  ·intro y0 y1 y2 y3 y4 y5 y6 y7
   unfold magpieref04_Before.j1
   repeat' first
   | (with_reducible exact ih0 _ _ _ _ _ _ _)
   | (with_reducible exact ih1 _ _ _ _ _ _ _ _)
   | (with_reducible exact LeO.refl _)
   | (with_reducible exact LeO.none _)
   | (with_reducible refine LeO.ite ?_ ?_)
   | (with_reducible refine LeO.bind ?_ (fun _ => ?_))
   | exact ih0 _ _ _ _ _ _ _
   | exact ih1 _ _ _ _ _ _ _ _
   | exact LeO.none _
   | refine LeO.ite ?_ ?_
   | refine LeO.bind ?_ (fun _ => ?_)
theorem magpieref04_Before.mono : ∀ a0 a1 a2 a3 a4 a5 k, LeO (magpieref04_Before.f k a0 a1 a2 a3 a4 a5) (magpieref04_Before.f (k + 1) a0 a1 a2 a3 a4 a5) := by
 intro a0 a1 a2 a3 a4 a5 k
 obtain ⟨ih0, ih1⟩ := magpieref04_Before.mono_l k
 unfold magpieref04_Before.f
 repeat' first
   | (with_reducible exact ih0 _ _ _ _ _ _ _)
   | (with_reducible exact ih1 _ _ _ _ _ _ _ _)
   | (with_reducible exact LeO.refl _)
   | (with_reducible exact LeO.none _)
   | (with_reducible refine LeO.ite ?_ ?_)
   | (with_reducible refine LeO.bind ?_ (fun _ => ?_))
   | exact ih0 _ _ _ _ _ _ _
   | exact ih1 _ _ _ _ _ _ _ _
   | exact LeO.none _
   | refine LeO.ite ?_ ?_
   | refine LeO.bind ?_ (fun _ => ?_)
def magpieref04_Before.T6 : Bool × List (List Nat × List Nat) := (true, [([], []), ([0], [0]), ([], []), ([1, 2], [1, 2]), ([3], [3]), ([], []), ([5], [5]), ([], []), ([6, 7], [6, 7]), ([8], [8]), ([], []), ([], []), ([10, 4, 0, 1, 2, 3, 4, 10, 11], [4, 10]), ([11, 9, 12, 0, 1, 2, 3, 4, 5, 6, 7, 8, 9, 10, 11, 12], [9, 11])])
def magpieref04_Before.B6 : List Nat := [0, 1, 0, 7, 15, 0, 32, 0, 224, 480, 0, 0, 3103, 8191]
theorem magpieref04_Before.tab6 : rtab .any (opsOf Tryz.f33 6) = magpieref04_Before.T6 := by kernel_rfl
theorem magpieref04_Before.bits6 : waitsOk magpieref04_Before.T6.2 magpieref04_Before.B6 = true := by kernel_rfl
set_option maxHeartbeats 8000000 in
set_option maxRecDepth 100000 in
theorem magpieref04_Before.calls (k : Nat) (a0_0 : Int) (A0_1 : Option Addr) (c0_1 : Nat) (l0_1 : List (S54)) (a0_2 : ByteArray) (a1_0 : Int) (A1_1 : Option Addr) (c1_1 : Nat) (l1_1 : List (S54)) (a1_2 : ByteArray) (r : Bool) (w : World) (hr0_1 : Kd.C k54 w A0_1 l0_1.length l0_1) (hc0_1 : l0_1.length ≤ c0_1) (hr1_1 : Kd.C k54 w A1_1 l1_1.length l1_1) (hc1_1 : l1_1.length ≤ c1_1) (h : magpieref04_Before.f k a0_0 l0_1 a0_2 a1_0 l1_1 a1_2 = some r) :
  Calls Tryz.prog 33 #[.agg #[.int .i64 a0_0, .slice A0_1 l0_1.length c0_1, .string a0_2], .agg #[.int .i64 a1_0, .slice A1_1 l1_1.length c1_1, .string a1_2]] w fun e w' => e = .returned (.bool r) ∧ Below w.heap.size w w' := by
 have hu26 := Tryz.underlying26
 have hu54 := Tryz.underlying54
 have HR0_1 := Aside0.mk hr0_1
 have HC0_1 := Aside0.mk hc0_1
 clear hr0_1 hc0_1
 have HR1_1 := Aside0.mk hr1_1
 have HC1_1 := Aside0.mk hc1_1
 clear hr1_1 hc1_1
 have HB := Aside0.mk (Below.refl w.heap.size w)
 have H : (if a0_0 = a1_0 then (magpieref04_Before.l0 k 0 a0_0 l0_1 a0_2 a1_0 l1_1 a1_2) else (some (decide (a0_0 < a1_0)))) = some r := h
 clear h
 by_cases c3 : a0_0 = a1_0
 ·rw [if_pos c3] at H
  have c3b0 : (a0_0 == a1_0) = true := beq_iff_eq.mpr c3
  have c3b1 : (a0_0 != a1_0) = false := bne_eq_false_iff_eq.mpr c3
  clear c3
  have H' := Aside0.mk H
  clear H
  go_enter Tryz.func33, Tryz.ntmps33
  go_wp2_with (first | ((with_reducible refine gate_dst (N := 2) rfl ?_); (try (refine gate_guard (by rfl) ?_; dsimp only)); refine box_event ?hg (N := 2) ?hd (cs := #[.int .i64 a0_0, .slice A0_1 l0_1.length c0_1, .string a0_2]) (t := 26) ?hr ?_; (case hd => rfl); (case hg => rfl); (case hr => first | (go_simp; done) | (go_simp; rfl)); intro gb252 hg w4 hbox hb; have n0_ := Aside0.mk (below_step (by repeat (first | (with_reducible first | exact HB.out | apply below_alloc | apply pw_below_drewN | apply below_drew1) | exact HB.out)) hb); have n1_ := Aside0.mk (hbox); have n2_ := Aside0.mk ((by rw [hg]; exact (below_size (by repeat (first | (with_reducible first | exact HB.out | apply below_alloc | apply pw_below_drewN | apply below_drew1) | exact HB.out))) : w.heap.size ≤ gb252)); have n3_ := Aside0.mk ((by rw [hg]; exact (below_size (by repeat (first | (with_reducible first | exact HB.out | apply below_alloc | apply pw_below_drewN | apply below_drew1) | exact HB.out))) : w.heap.size ≤ gb252)); clear HB; have HB := n0_; have BK252 := n1_; have GW252 := n2_; have GE252 := n3_; clear n0_ n1_ n2_ n3_; clear hb hbox hg) | ((with_reducible refine gate_dst (N := 3) rfl ?_); (try (refine gate_guard (by rfl) ?_; dsimp only)); refine box_event ?hg (N := 3) ?hd (cs := #[.int .i64 a1_0, .slice A1_1 l1_1.length c1_1, .string a1_2]) (t := 26) ?hr ?_; (case hd => rfl); (case hg => rfl); (case hr => first | (go_simp; done) | (go_simp; rfl)); intro gb253 hg w5 hbox hb; have n0_ := Aside0.mk (blk_below (g := gb252) (o := .cells #[.int .i64 a0_0, .slice A0_1 l0_1.length c0_1, .string a0_2] 26 (0, 0)) (by (with_reducible repeat (first | refine blk_drewN ?_ _ | refine blk_drew ?_ | refine blk_alloc ?_ _)); exact BK252.out) hb); have n1_ := Aside0.mk (below_step (by repeat (first | (with_reducible first | exact HB.out | apply below_alloc | apply pw_below_drewN | apply below_drew1 | refine below_set ?_ GE252.out) | exact HB.out)) hb); have n2_ := Aside0.mk (hbox); have n3_ := Aside0.mk ((by rw [hg]; exact (below_size (by repeat (first | (with_reducible first | exact HB.out | apply below_alloc | apply pw_below_drewN | apply below_drew1 | refine below_set ?_ GE252.out) | exact HB.out))) : w.heap.size ≤ gb253)); have n4_ := Aside0.mk ((by rw [hg]; exact (below_size (by repeat (first | (with_reducible first | exact HB.out | apply below_alloc | apply pw_below_drewN | apply below_drew1 | refine below_set ?_ GE252.out) | exact HB.out))) : w.heap.size ≤ gb253)); have n5_ := Aside0.mk ((by rw [hg]; exact Nat.ne_of_lt (blk_lt (g := gb252) (o := .cells #[.int .i64 a0_0, .slice A0_1 l0_1.length c0_1, .string a0_2] 26 (0, 0)) (by (with_reducible repeat (first | refine blk_drewN ?_ _ | refine blk_drew ?_ | refine blk_alloc ?_ _)); exact BK252.out)) : gb252 ≠ gb253)); have n6_ := Aside0.mk ((by rw [hg]; exact Nat.ne_of_gt (blk_lt (g := gb252) (o := .cells #[.int .i64 a0_0, .slice A0_1 l0_1.length c0_1, .string a0_2] 26 (0, 0)) (by (with_reducible repeat (first | refine blk_drewN ?_ _ | refine blk_drew ?_ | refine blk_alloc ?_ _)); exact BK252.out)) : gb253 ≠ gb252)); clear BK252; clear HB; have BK252 := n0_; have HB := n1_; have BK253 := n2_; have GW253 := n3_; have GE253 := n4_; have NB252_253 := n5_; have NB253_252 := n6_; clear n0_ n1_ n2_ n3_ n4_ n5_ n6_; clear hb hbox hg; have hnb6 := NB252_253.out; have hnc6 := NB253_252.out; have hcz7_0 : w5.cell? ⟨gb252, 0, none⟩ = some (.int .i64 a0_0) := (blk_cell BK252.out 0).trans rfl; have hcz7_1 : w5.cell? ⟨gb252, 1, none⟩ = some (.slice A0_1 l0_1.length c0_1) := (blk_cell BK252.out 1).trans rfl; have hcz7_2 : w5.cell? ⟨gb252, 2, none⟩ = some (.string a0_2) := (blk_cell BK252.out 2).trans rfl; have hfz7_0 := blk_frozen BK252.out 0; have hfz7_1 := blk_frozen BK252.out 1; have hfz7_2 := blk_frozen BK252.out 2; have hcz8_0 : w5.cell? ⟨gb253, 0, none⟩ = some (.int .i64 a1_0) := (blk_cell BK253.out 0).trans rfl; have hcz8_1 : w5.cell? ⟨gb253, 1, none⟩ = some (.slice A1_1 l1_1.length c1_1) := (blk_cell BK253.out 1).trans rfl; have hcz8_2 : w5.cell? ⟨gb253, 2, none⟩ = some (.string a1_2) := (blk_cell BK253.out 2).trans rfl; have hfz8_0 := blk_frozen BK253.out 0; have hfz8_1 := blk_frozen BK253.out 1; have hfz8_2 := blk_frozen BK253.out 2))
  go_loopg [5] k (fun kq v5 w' => ∃ (x5_1 : Int), v5 = .int .i64 x5_1 ∧ Aside0 (magpieref04_Before.l0 kq x5_1 a0_0 l0_1 a0_2 a1_0 l1_1 a1_2 = some r) ∧ Aside0 (kq ≤ k) ∧ Aside0 (w'.heap[gb252]? = some (.cells #[.int .i64 a0_0, (.slice A0_1 l0_1.length c0_1), .string a0_2] 26 (0, 0))) ∧ Aside0 (w'.heap[gb253]? = some (.cells #[.int .i64 a1_0, (.slice A1_1 l1_1.length c1_1), .string a1_2] 26 (0, 0))) ∧ Aside0 (Below w.heap.size w w'))
  case atStart => exact ⟨(0), (by first | rfl | (simp; done) | (simp [*]; done)), H', ⟨Nat.le_refl _⟩, ⟨by (with_reducible repeat (first | refine blk_drewN ?_ _ | refine blk_drew ?_ | refine blk_alloc ?_ _)); exact BK252.out⟩, ⟨by (with_reducible repeat (first | refine blk_drewN ?_ _ | refine blk_drew ?_ | refine blk_alloc ?_ _)); exact BK253.out⟩, ⟨by repeat (first | (with_reducible first | exact HB.out | apply below_alloc | apply pw_below_drewN | apply below_drew1 | refine below_set ?_ GE252.out | refine below_set ?_ GE253.out) | exact HB.out)⟩⟩
  case round =>
   clear H'
   try clear c1
   try clear p2
   try clear c3
   try clear c3b0
   try clear c3b1
   try clear c6
   try clear hcz7_0
   try clear hcz7_1
   try clear hcz7_2
   try clear hcz8_0
   try clear hcz8_1
   try clear hcz8_2
   try clear hfz7_0
   try clear hfz7_1
   try clear hfz7_2
   try clear hfz8_0
   try clear hfz8_1
   try clear hfz8_2
   obtain ⟨x5_1, rfl, HA, HK1, BK252, BK253, HB⟩ := hrel
   cases gk with
   | zero => exact absurd HA.out (by simp [magpieref04_Before.l0])
   | succ k1 =>
    have H := HA.out
    clear HA
    simp only [magpieref04_Before.l0] at H
    have HC9 := Aside0.mk H
    clear H
    go_upto_region 4 with (fail)
    go_cut [29] (fun v29 wc => ∃ (kq : Nat) (x29_8 : Bool), v29 = .bool x29_8 ∧ Aside0 (magpieref04_Before.j1 kq x5_1 x29_8 a0_0 l0_1 a0_2 a1_0 l1_1 a1_2 = some r) ∧ Aside0 (kq ≤ k1) ∧ Aside0 (wc.heap[gb252]? = some (.cells #[.int .i64 a0_0, (.slice A0_1 l0_1.length c0_1), .string a0_2] 26 (0, 0))) ∧ Aside0 (wc.heap[gb253]? = some (.cells #[.int .i64 a1_0, (.slice A1_1 l1_1.length c1_1), .string a1_2] 26 (0, 0))) ∧ Aside0 (Below w.heap.size w wc))
    case first =>
     have H := HC9.out
     clear HC9
     by_cases c10 : x5_1 < (l0_1.length : Int)
     ·rw [if_pos c10] at H
      have c10b0 : decide (x5_1 < (l0_1.length : Int)) = true := decide_eq_true c10
      clear c10
      (first | rw [c10b0] | (simp only [i64_w, i32_w]; rw [c10b0]) | skip)
      have H' := Aside0.mk H
      clear H
      have hnb11 := NB252_253.out
      have hnc11 := NB253_252.out
      have hcz12_0 : wr.cell? ⟨gb252, 0, none⟩ = some (.int .i64 a0_0) := (blk_cell BK252.out 0).trans rfl
      have hcz12_1 : wr.cell? ⟨gb252, 1, none⟩ = some (.slice A0_1 l0_1.length c0_1) := (blk_cell BK252.out 1).trans rfl
      have hcz12_2 : wr.cell? ⟨gb252, 2, none⟩ = some (.string a0_2) := (blk_cell BK252.out 2).trans rfl
      have hfz12_0 := blk_frozen BK252.out 0
      have hfz12_1 := blk_frozen BK252.out 1
      have hfz12_2 := blk_frozen BK252.out 2
      have hcz13_0 : wr.cell? ⟨gb253, 0, none⟩ = some (.int .i64 a1_0) := (blk_cell BK253.out 0).trans rfl
      have hcz13_1 : wr.cell? ⟨gb253, 1, none⟩ = some (.slice A1_1 l1_1.length c1_1) := (blk_cell BK253.out 1).trans rfl
      have hcz13_2 : wr.cell? ⟨gb253, 2, none⟩ = some (.string a1_2) := (blk_cell BK253.out 2).trans rfl
      have hfz13_0 := blk_frozen BK253.out 0
      have hfz13_1 := blk_frozen BK253.out 1
      have hfz13_2 := blk_frozen BK253.out 2
      go_wp2
      go_meet
      case rel => exact ⟨_, (decide (x5_1 < (l1_1.length : Int))), (by first | rfl | (simp; done) | (simp [*]; done)), H', ⟨by have := HK1.out; first | omega | exact Nat.le_refl _⟩, ⟨by (with_reducible repeat (first | refine blk_drewN ?_ _ | refine blk_drew ?_ | refine blk_alloc ?_ _)); exact BK252.out⟩, ⟨by (with_reducible repeat (first | refine blk_drewN ?_ _ | refine blk_drew ?_ | refine blk_alloc ?_ _)); exact BK253.out⟩, ⟨by repeat (first | (with_reducible first | exact HB.out | apply below_alloc | apply pw_below_drewN | apply below_drew1 | refine below_set ?_ GE252.out | refine below_set ?_ GE253.out) | exact HB.out)⟩⟩
     ·rw [if_neg c10] at H
      have c10b0 : decide (x5_1 < (l0_1.length : Int)) = false := decide_eq_false c10
      clear c10
      (first | rw [c10b0] | (simp only [i64_w, i32_w]; rw [c10b0]) | skip)
      have H' := Aside0.mk H
      clear H
      have hnb14 := NB252_253.out
      have hnc14 := NB253_252.out
      have hcz15_0 : wr.cell? ⟨gb252, 0, none⟩ = some (.int .i64 a0_0) := (blk_cell BK252.out 0).trans rfl
      have hcz15_1 : wr.cell? ⟨gb252, 1, none⟩ = some (.slice A0_1 l0_1.length c0_1) := (blk_cell BK252.out 1).trans rfl
      have hcz15_2 : wr.cell? ⟨gb252, 2, none⟩ = some (.string a0_2) := (blk_cell BK252.out 2).trans rfl
      have hfz15_0 := blk_frozen BK252.out 0
      have hfz15_1 := blk_frozen BK252.out 1
      have hfz15_2 := blk_frozen BK252.out 2
      go_wp2
      go_meet
      case rel => exact ⟨_, (false), (by first | rfl | (simp; done) | (simp [*]; done)), H', ⟨by have := HK1.out; first | omega | exact Nat.le_refl _⟩, ⟨by (with_reducible repeat (first | refine blk_drewN ?_ _ | refine blk_drew ?_ | refine blk_alloc ?_ _)); exact BK252.out⟩, ⟨by (with_reducible repeat (first | refine blk_drewN ?_ _ | refine blk_drew ?_ | refine blk_alloc ?_ _)); exact BK253.out⟩, ⟨by repeat (first | (with_reducible first | exact HB.out | apply below_alloc | apply pw_below_drewN | apply below_drew1 | refine below_set ?_ GE252.out | refine below_set ?_ GE253.out) | exact HB.out)⟩⟩
    case rest =>
     clear HC9
     try clear c1
     try clear p2
     try clear c3
     try clear c3b0
     try clear c3b1
     try clear c6
     try clear c10
     try clear c10b0
     try clear c11
     try clear c14
     try clear hcz12_0
     try clear hcz12_1
     try clear hcz12_2
     try clear hcz13_0
     try clear hcz13_1
     try clear hcz13_2
     try clear hcz15_0
     try clear hcz15_1
     try clear hcz15_2
     try clear hcz7_0
     try clear hcz7_1
     try clear hcz7_2
     try clear hcz8_0
     try clear hcz8_1
     try clear hcz8_2
     try clear hfz12_0
     try clear hfz12_1
     try clear hfz12_2
     try clear hfz13_0
     try clear hfz13_1
     try clear hfz13_2
     try clear hfz15_0
     try clear hfz15_1
     try clear hfz15_2
     try clear hfz7_0
     try clear hfz7_1
     try clear hfz7_2
     try clear hfz8_0
     try clear hfz8_1
     try clear hfz8_2
     try clear p2
     obtain ⟨kq, x29_8, rfl, HA, HJ8, BK252, BK253, HB⟩ := hcut
     cases kq with
     | zero => exact absurd HA.out (by simp [magpieref04_Before.j1])
     | succ kj8 =>
      have H := HA.out
      clear HA
      simp only [magpieref04_Before.j1] at H
      by_cases c16 : x29_8 = true
      ·subst c16
       have H1 : (if 0 ≤ x5_1 then (if x5_1 < (l0_1.length : Int) then (if x5_1 < (l1_1.length : Int) then (if ((rd_T54 l0_1 x5_1).f0).toList = ((rd_T54 l1_1 x5_1).f0).toList then (if ((rd_T54 l0_1 x5_1).f1).toList = ((rd_T54 l1_1 x5_1).f1).toList then (magpieref04_Before.l0 kj8 (wrap64 (x5_1 + 1)) a0_0 l0_1 a0_2 a1_0 l1_1 a1_2) else (some (Op.bytesLess (((rd_T54 l0_1 x5_1).f1).toList) (((rd_T54 l1_1 x5_1).f1).toList)))) else (some (Op.bytesLess (((rd_T54 l0_1 x5_1).f0).toList) (((rd_T54 l1_1 x5_1).f0).toList)))) else (none)) else (none)) else (none)) = some r := by rw [if_pos rfl] at H; exact H
       clear H
       have H := H1
       clear H1
       by_cases c17 : 0 ≤ x5_1
       ·rw [if_pos c17] at H
        have c17b0 : decide (0 ≤ x5_1) = true := decide_eq_true c17
        clear c17
        by_cases c18 : x5_1 < (l0_1.length : Int)
        ·rw [if_pos c18] at H
         have c18b0 : decide (x5_1 < (l0_1.length : Int)) = true := decide_eq_true c18
         clear c18
         by_cases c19 : x5_1 < (l1_1.length : Int)
         ·rw [if_pos c19] at H
          have c19b0 : decide (x5_1 < (l1_1.length : Int)) = true := decide_eq_true c19
          clear c19
          by_cases c20 : ((rd_T54 l0_1 x5_1).f0).toList = ((rd_T54 l1_1 x5_1).f0).toList
          ·rw [if_pos c20] at H
           have c20b0 : (((rd_T54 l0_1 x5_1).f0).toList == ((rd_T54 l1_1 x5_1).f0).toList) = true := beq_iff_eq.mpr c20
           have c20b1 : (((rd_T54 l0_1 x5_1).f0).toList != ((rd_T54 l1_1 x5_1).f0).toList) = false := bne_eq_false_iff_eq.mpr c20
           clear c20
           by_cases c21 : ((rd_T54 l0_1 x5_1).f1).toList = ((rd_T54 l1_1 x5_1).f1).toList
           ·rw [if_pos c21] at H
            have c21b0 : (((rd_T54 l0_1 x5_1).f1).toList == ((rd_T54 l1_1 x5_1).f1).toList) = true := beq_iff_eq.mpr c21
            have c21b1 : (((rd_T54 l0_1 x5_1).f1).toList != ((rd_T54 l1_1 x5_1).f1).toList) = false := bne_eq_false_iff_eq.mpr c21
            clear c21
            have H' := Aside0.mk H
            clear H
            try go_wp2
            have n0_ := Aside0.mk (blk_drew BK252.out)
            have n1_ := Aside0.mk (blk_drew BK253.out)
            have n2_ := Aside0.mk (below_drew1 HB.out)
            clear BK252
            clear BK253
            clear HB
            have BK252 := n0_
            have BK253 := n1_
            have HB := n2_
            clear n0_ n1_ n2_
            have p254 : 0 ≤ (x5_1 : Int) := of_decide_eq_true (by first | (with_reducible assumption) | assumption)
            have q254 : x5_1 < (l0_1.length : Int) := of_decide_eq_true (by first | (with_reducible assumption) | assumption)
            obtain ⟨ad254, e254, hx254_0, hx254_1⟩ := at_T54 HR0_1.out x5_1 p254 q254
            have hw254_1 := hx254_1
            have hw254_0 := hx254_0
            cases e254
            replace hx254_0 := (HB.out.cell (World.block_lt_of_cell? w _ hx254_0)).trans hx254_0
            replace hx254_1 := (HB.out.cell (World.block_lt_of_cell? w _ hx254_1)).trans hx254_1
            replace p254 := eq_true p254
            replace q254 := eq_true q254
            have p255 : 0 ≤ (x5_1 : Int) := of_decide_eq_true (by first | (with_reducible assumption) | assumption)
            have q255 : x5_1 < (l1_1.length : Int) := of_decide_eq_true (by first | (with_reducible assumption) | assumption)
            obtain ⟨ad255, e255, hx255_0, hx255_1⟩ := at_T54 HR1_1.out x5_1 p255 q255
            have hw255_1 := hx255_1
            have hw255_0 := hx255_0
            cases e255
            replace hx255_0 := (HB.out.cell (World.block_lt_of_cell? w _ hx255_0)).trans hx255_0
            replace hx255_1 := (HB.out.cell (World.block_lt_of_cell? w _ hx255_1)).trans hx255_1
            replace p255 := eq_true p255
            replace q255 := eq_true q255
            refine start_ (n := 14) (S := fun w' => w'.cell? ⟨gb252, 0, none⟩ = some (.int .i64 a0_0) ∧ w'.cell? ⟨gb252, 1, none⟩ = some (.slice (some ad254) l0_1.length c0_1) ∧ w'.cell? ⟨gb252, 2, none⟩ = some (.string a0_2) ∧ w'.cell? ⟨gb253, 0, none⟩ = some (.int .i64 a1_0) ∧ w'.cell? ⟨gb253, 1, none⟩ = some (.slice (some ad255) l1_1.length c1_1) ∧ w'.cell? ⟨gb253, 2, none⟩ = some (.string a1_2) ∧ w'.cell? (ad254.add ((x5_1).toNat * 2)) = some (.string ((rd_T54 l0_1 x5_1).f0)) ∧ w'.cell? ⟨(ad254.add ((x5_1).toNat * 2)).block, (ad254.add ((x5_1).toNat * 2)).off + 1, none⟩ = some (.string ((rd_T54 l0_1 x5_1).f1)) ∧ w'.cell? (ad255.add ((x5_1).toNat * 2)) = some (.string ((rd_T54 l1_1 x5_1).f0)) ∧ w'.cell? ⟨(ad255.add ((x5_1).toNat * 2)).block, (ad255.add ((x5_1).toNat * 2)).off + 1, none⟩ = some (.string ((rd_T54 l1_1 x5_1).f1))) (ds := []) #[false, false, false, false, false, false, false, false, false, false, false, false, false, false] (by kernel_rfl) rfl rfl ⟨(blk_cell BK252.out 0).trans rfl, (blk_cell BK252.out 1).trans rfl, (blk_cell BK252.out 2).trans rfl, (blk_cell BK253.out 0).trans rfl, (blk_cell BK253.out 1).trans rfl, (blk_cell BK253.out 2).trans rfl, ((HB.out.cell (World.block_lt_of_cell? w _ hw254_0)).trans hw254_0), ((HB.out.cell (World.block_lt_of_cell? w _ hw254_1)).trans hw254_1), ((HB.out.cell (World.block_lt_of_cell? w _ hw255_0)).trans hw255_0), ((HB.out.cell (World.block_lt_of_cell? w _ hw255_1)).trans hw255_1)⟩ (fun hHeld => ?_); refine with_tabW magpieref04_Before.tab6 magpieref04_Before.bits6 (fun HT_ HW_ => ?_)
            generalize wc.drew = w22 at BK252 BK253 HB hx254_0 hx254_1 hx255_0 hx255_1 hHeld ⊢
            refine pure_ (i := 0) (N := some 32) (v := ?_) (a' := ?_) #[true, false, false, false, false, false, false, false, false, false, false, false, false, false] rfl rfl (any_of HT_.out (by kernel_rfl)) (fun _ _ _ h => h) (Or.inl ⟨by rfl, ?_⟩) ?_ ?_
            rotate_left
            ·intro w'
             go_simp
             with_reducible rfl
            rotate_left
            ·simp only [Act.put, List.setIfInBounds_toArray, List.set_cons_zero, List.set_cons_succ, i64_w, i32_w]
             rfl
            refine pure_ (i := 2) (N := some 34) (v := ?_) (a' := ?_) #[true, false, true, false, false, false, false, false, false, false, false, false, false, false] rfl rfl (any_of HT_.out (by kernel_rfl)) (fun _ _ _ h => h) (Or.inl ⟨by rfl, ?_⟩) ?_ ?_
            rotate_left
            ·intro w'
             go_simp
             with_reducible rfl
            rotate_left
            ·simp only [Act.put, List.setIfInBounds_toArray, List.set_cons_zero, List.set_cons_succ, i64_w, i32_w]
             rfl
            refine pure_ (i := 5) (N := some 37) (v := ?_) (a' := ?_) #[true, false, true, false, false, true, false, false, false, false, false, false, false, false] rfl rfl (any_of HT_.out (by kernel_rfl)) (fun _ _ _ h => h) (Or.inl ⟨by rfl, ?_⟩) ?_ ?_
            rotate_left
            ·intro w'
             go_simp
             with_reducible rfl
            rotate_left
            ·simp only [Act.put, List.setIfInBounds_toArray, List.set_cons_zero, List.set_cons_succ, i64_w, i32_w]
             rfl
            refine pure_ (i := 7) (N := some 39) (v := ?_) (a' := ?_) #[true, false, true, false, false, true, false, true, false, false, false, false, false, false] rfl rfl (any_of HT_.out (by kernel_rfl)) (fun _ _ _ h => h) (Or.inl ⟨by rfl, ?_⟩) ?_ ?_
            rotate_left
            ·intro w'
             go_simp
             with_reducible rfl
            rotate_left
            ·simp only [Act.put, List.setIfInBounds_toArray, List.set_cons_zero, List.set_cons_succ, i64_w, i32_w]
             rfl
            refine take_ (i := 1) (N := some 33) (v := ?_) (a' := ?_) #[true, true, true, false, false, true, false, true, false, false, false, false, false, false] rfl rfl (take_ofW HT_.out HW_.out (by kernel_rfl)) (fun _ _ _ h => h) (Or.inl ⟨by rfl, ?_⟩) hHeld ?_ ?_
            rotate_left
            ·rintro w' ⟨s0, s1, s2, s3, s4, s5, s6, s7, s8, s9⟩
             go_simp
             with_reducible rfl
            rotate_left
            ·simp only [Act.put, List.setIfInBounds_toArray, List.set_cons_zero, List.set_cons_succ, i64_w, i32_w]
             rfl
            refine pure_ (i := 3) (N := some 35) (v := ?_) (a' := ?_) #[true, true, true, true, false, true, false, true, false, false, false, false, false, false] rfl rfl (any_of HT_.out (by kernel_rfl)) (fun _ _ _ h => h) (Or.inl ⟨by rfl, ?_⟩) ?_ ?_
            rotate_left
            ·intro w'
             go_simp
             with_reducible rfl
            rotate_left
            ·simp only [Act.put, List.setIfInBounds_toArray, List.set_cons_zero, List.set_cons_succ, i64_w, i32_w]
             rfl
            refine take_ (i := 4) (N := some 36) (v := ?_) (a' := ?_) #[true, true, true, true, true, true, false, true, false, false, false, false, false, false] rfl rfl (take_ofW HT_.out HW_.out (by kernel_rfl)) (fun _ _ _ h => h) (Or.inl ⟨by rfl, ?_⟩) hHeld ?_ ?_
            rotate_left
            ·rintro w' ⟨s0, s1, s2, s3, s4, s5, s6, s7, s8, s9⟩
             go_simp
             with_reducible rfl
            rotate_left
            ·simp only [Act.put, List.setIfInBounds_toArray, List.set_cons_zero, List.set_cons_succ, i64_w, i32_w]
             rfl
            refine take_ (i := 6) (N := some 38) (v := ?_) (a' := ?_) #[true, true, true, true, true, true, true, true, false, false, false, false, false, false] rfl rfl (take_ofW HT_.out HW_.out (by kernel_rfl)) (fun _ _ _ h => h) (Or.inl ⟨by rfl, ?_⟩) hHeld ?_ ?_
            rotate_left
            ·rintro w' ⟨s0, s1, s2, s3, s4, s5, s6, s7, s8, s9⟩
             go_simp
             with_reducible rfl
            rotate_left
            ·simp only [Act.put, List.setIfInBounds_toArray, List.set_cons_zero, List.set_cons_succ, i64_w, i32_w]
             rfl
            refine pure_ (i := 8) (N := some 40) (v := ?_) (a' := ?_) #[true, true, true, true, true, true, true, true, true, false, false, false, false, false] rfl rfl (any_of HT_.out (by kernel_rfl)) (fun _ _ _ h => h) (Or.inl ⟨by rfl, ?_⟩) ?_ ?_
            rotate_left
            ·intro w'
             go_simp
             with_reducible rfl
            rotate_left
            ·simp only [Act.put, List.setIfInBounds_toArray, List.set_cons_zero, List.set_cons_succ, i64_w, i32_w]
             rfl
            refine take_ (i := 9) (N := some 41) (v := ?_) (a' := ?_) #[true, true, true, true, true, true, true, true, true, true, false, false, false, false] rfl rfl (take_ofW HT_.out HW_.out (by kernel_rfl)) (fun _ _ _ h => h) (Or.inl ⟨by rfl, ?_⟩) hHeld ?_ ?_
            rotate_left
            ·rintro w' ⟨s0, s1, s2, s3, s4, s5, s6, s7, s8, s9⟩
             go_simp
             with_reducible rfl
            rotate_left
            ·simp only [Act.put, List.setIfInBounds_toArray, List.set_cons_zero, List.set_cons_succ, i64_w, i32_w]
             rfl
            refine join_ (σ := Nat × Nat) 2 #[true, true, true, true, true, true, true, true, true, true, true, true, false, false] (fun s_ => [(6, .pointer (some ⟨s_.1, 0, none⟩)), (7, .pointer (some ⟨s_.2, 0, none⟩))]) (fun s_ w' => (w'.cell? ⟨gb252, 0, none⟩ = some (.int .i64 a0_0) ∧ w'.cell? ⟨gb252, 1, none⟩ = some (.slice (some ad254) l0_1.length c0_1) ∧ w'.cell? ⟨gb252, 2, none⟩ = some (.string a0_2) ∧ w'.cell? ⟨gb253, 0, none⟩ = some (.int .i64 a1_0) ∧ w'.cell? ⟨gb253, 1, none⟩ = some (.slice (some ad255) l1_1.length c1_1) ∧ w'.cell? ⟨gb253, 2, none⟩ = some (.string a1_2) ∧ w'.cell? (ad254.add ((x5_1).toNat * 2)) = some (.string ((rd_T54 l0_1 x5_1).f0)) ∧ w'.cell? ⟨(ad254.add ((x5_1).toNat * 2)).block, (ad254.add ((x5_1).toNat * 2)).off + 1, none⟩ = some (.string ((rd_T54 l0_1 x5_1).f1)) ∧ w'.cell? (ad255.add ((x5_1).toNat * 2)) = some (.string ((rd_T54 l1_1 x5_1).f0)) ∧ w'.cell? ⟨(ad255.add ((x5_1).toNat * 2)).block, (ad255.add ((x5_1).toNat * 2)).off + 1, none⟩ = some (.string ((rd_T54 l1_1 x5_1).f1))) ∧ (w'.heap[gb252]? = some (.cells #[.int .i64 a0_0, .slice (some ad254) l0_1.length c0_1, .string a0_2] 26 (0, 0))) ∧ (w'.heap[gb253]? = some (.cells #[.int .i64 a1_0, .slice (some ad255) l1_1.length c1_1, .string a1_2] 26 (0, 0))) ∧ (w'.heap[s_.1]? = some (.cells #[.string (⟨#[]⟩ : ByteArray), .string (⟨#[]⟩ : ByteArray)] 54 (0, 0))) ∧ (w'.heap[s_.2]? = some (.cells #[.string (⟨#[]⟩ : ByteArray), .string (⟨#[]⟩ : ByteArray)] 54 (0, 0))) ∧ (w.heap.size ≤ s_.1) ∧ (w.heap.size ≤ s_.1) ∧ (gb252 ≠ s_.1) ∧ (s_.1 ≠ gb252) ∧ (gb253 ≠ s_.1) ∧ (s_.1 ≠ gb253) ∧ (s_.2 ≠ s_.1) ∧ (s_.1 ≠ s_.2) ∧ (w.heap.size ≤ s_.2) ∧ (w.heap.size ≤ s_.2) ∧ (gb252 ≠ s_.2) ∧ (s_.2 ≠ gb252) ∧ (gb253 ≠ s_.2) ∧ (s_.2 ≠ gb253) ∧ (Below w.heap.size w w')) ?_ ?_
            rotate_left
            ·intro hCont
             refine two_ (i := 10) (j := 11) (Ni := some 6) (Nj := some 7) #[true, true, true, true, true, true, true, true, true, true, true, false, false, false] #[true, true, true, true, true, true, true, true, true, true, false, true, false, false] rfl rfl rfl rfl (two_of HT_.out (by kernel_rfl)) (by decide) (by decide) (fun K hK => ?_) (fun K hK => ?_)
             ·skip
              refine box_step ?hg (N := 6) ?hd (cs := #[.string (⟨#[]⟩ : ByteArray), .string (⟨#[]⟩ : ByteArray)]) (t := 54) ?hr ?_; (case hd => rfl); (case hg => rfl); (case hr => first | (go_simp; done) | (go_simp; rfl))
              intro gb256 hg w23 hbox hb
              have n0_ := Aside0.mk (blk_below (g := gb252) (o := .cells #[.int .i64 a0_0, .slice (some ad254) l0_1.length c0_1, .string a0_2] 26 (0, 0)) (by (with_reducible repeat (first | refine blk_drewN ?_ _ | refine blk_drew ?_ | refine blk_alloc ?_ _)); exact BK252.out) hb)
              have n1_ := Aside0.mk (blk_below (g := gb253) (o := .cells #[.int .i64 a1_0, .slice (some ad255) l1_1.length c1_1, .string a1_2] 26 (0, 0)) (by (with_reducible repeat (first | refine blk_drewN ?_ _ | refine blk_drew ?_ | refine blk_alloc ?_ _)); exact BK253.out) hb)
              have n2_ := Aside0.mk (below_step (by repeat (first | (with_reducible first | exact HB.out | apply below_alloc | apply pw_below_drewN | apply below_drew1 | refine below_set ?_ GE252.out | refine below_set ?_ GE253.out) | exact HB.out)) hb)
              have n3_ := Aside0.mk (hbox)
              have n4_ := Aside0.mk ((by rw [hg]; exact (below_size (by repeat (first | (with_reducible first | exact HB.out | apply below_alloc | apply pw_below_drewN | apply below_drew1 | refine below_set ?_ GE252.out | refine below_set ?_ GE253.out) | exact HB.out))) : w.heap.size ≤ gb256))
              have n5_ := Aside0.mk ((by rw [hg]; exact (below_size (by repeat (first | (with_reducible first | exact HB.out | apply below_alloc | apply pw_below_drewN | apply below_drew1 | refine below_set ?_ GE252.out | refine below_set ?_ GE253.out) | exact HB.out))) : w.heap.size ≤ gb256))
              have n6_ := Aside0.mk ((by rw [hg]; exact Nat.ne_of_lt (blk_lt (g := gb252) (o := .cells #[.int .i64 a0_0, .slice (some ad254) l0_1.length c0_1, .string a0_2] 26 (0, 0)) (by (with_reducible repeat (first | refine blk_drewN ?_ _ | refine blk_drew ?_ | refine blk_alloc ?_ _)); exact BK252.out)) : gb252 ≠ gb256))
              have n7_ := Aside0.mk ((by rw [hg]; exact Nat.ne_of_gt (blk_lt (g := gb252) (o := .cells #[.int .i64 a0_0, .slice (some ad254) l0_1.length c0_1, .string a0_2] 26 (0, 0)) (by (with_reducible repeat (first | refine blk_drewN ?_ _ | refine blk_drew ?_ | refine blk_alloc ?_ _)); exact BK252.out)) : gb256 ≠ gb252))
              have n8_ := Aside0.mk ((by rw [hg]; exact Nat.ne_of_lt (blk_lt (g := gb253) (o := .cells #[.int .i64 a1_0, .slice (some ad255) l1_1.length c1_1, .string a1_2] 26 (0, 0)) (by (with_reducible repeat (first | refine blk_drewN ?_ _ | refine blk_drew ?_ | refine blk_alloc ?_ _)); exact BK253.out)) : gb253 ≠ gb256))
              have n9_ := Aside0.mk ((by rw [hg]; exact Nat.ne_of_gt (blk_lt (g := gb253) (o := .cells #[.int .i64 a1_0, .slice (some ad255) l1_1.length c1_1, .string a1_2] 26 (0, 0)) (by (with_reducible repeat (first | refine blk_drewN ?_ _ | refine blk_drew ?_ | refine blk_alloc ?_ _)); exact BK253.out)) : gb256 ≠ gb253))
              clear BK252
              clear BK253
              clear HB
              have BK252 := n0_
              have BK253 := n1_
              have HB := n2_
              have BK256 := n3_
              have GW256 := n4_
              have GE256 := n5_
              have NB252_256 := n6_
              have NB256_252 := n7_
              have NB253_256 := n8_
              have NB256_253 := n9_
              clear n0_ n1_ n2_ n3_ n4_ n5_ n6_ n7_ n8_ n9_
              clear hb hbox hg
              refine hK.out _ _ ⟨(blk_cell BK252.out 0).trans rfl, (blk_cell BK252.out 1).trans rfl, (blk_cell BK252.out 2).trans rfl, (blk_cell BK253.out 0).trans rfl, (blk_cell BK253.out 1).trans rfl, (blk_cell BK253.out 2).trans rfl, ((HB.out.cell (World.block_lt_of_cell? w _ hw254_0)).trans hw254_0), ((HB.out.cell (World.block_lt_of_cell? w _ hw254_1)).trans hw254_1), ((HB.out.cell (World.block_lt_of_cell? w _ hw255_0)).trans hw255_0), ((HB.out.cell (World.block_lt_of_cell? w _ hw255_1)).trans hw255_1)⟩ (fun hHeld => ?_)
              clear hK K
              refine norm_ (a' := ?_) ?_ ?_
              rotate_left
              ·show Act.put _ (some 6) _ = _
               simp only [Act.put, List.setIfInBounds_toArray, List.set_cons_zero, List.set_cons_succ, i64_w, i32_w]
               rfl
              refine one_ (i := 11) (N := some 7) #[true, true, true, true, true, true, true, true, true, true, true, true, false, false] rfl rfl (one_of HT_.out (by kernel_rfl)) (by decide) (fun K hK => ?_)
              refine box_step ?hg (N := 7) ?hd (cs := #[.string (⟨#[]⟩ : ByteArray), .string (⟨#[]⟩ : ByteArray)]) (t := 54) ?hr ?_; (case hd => rfl); (case hg => rfl); (case hr => first | (go_simp; done) | (go_simp; rfl))
              intro gb257 hg w24 hbox hb
              have n0_ := Aside0.mk (blk_below (g := gb252) (o := .cells #[.int .i64 a0_0, .slice (some ad254) l0_1.length c0_1, .string a0_2] 26 (0, 0)) (by (with_reducible repeat (first | refine blk_drewN ?_ _ | refine blk_drew ?_ | refine blk_alloc ?_ _)); exact BK252.out) hb)
              have n1_ := Aside0.mk (blk_below (g := gb253) (o := .cells #[.int .i64 a1_0, .slice (some ad255) l1_1.length c1_1, .string a1_2] 26 (0, 0)) (by (with_reducible repeat (first | refine blk_drewN ?_ _ | refine blk_drew ?_ | refine blk_alloc ?_ _)); exact BK253.out) hb)
              have n2_ := Aside0.mk (blk_below (g := gb256) (o := .cells #[.string (⟨#[]⟩ : ByteArray), .string (⟨#[]⟩ : ByteArray)] 54 (0, 0)) (by (with_reducible repeat (first | refine blk_drewN ?_ _ | refine blk_drew ?_ | refine blk_alloc ?_ _)); exact BK256.out) hb)
              have n3_ := Aside0.mk (below_step (by repeat (first | (with_reducible first | exact HB.out | apply below_alloc | apply pw_below_drewN | apply below_drew1 | refine below_set ?_ GE252.out | refine below_set ?_ GE253.out | refine below_set ?_ GE256.out) | exact HB.out)) hb)
              have n4_ := Aside0.mk (hbox)
              have n5_ := Aside0.mk ((by rw [hg]; exact (below_size (by repeat (first | (with_reducible first | exact HB.out | apply below_alloc | apply pw_below_drewN | apply below_drew1 | refine below_set ?_ GE252.out | refine below_set ?_ GE253.out | refine below_set ?_ GE256.out) | exact HB.out))) : w.heap.size ≤ gb257))
              have n6_ := Aside0.mk ((by rw [hg]; exact (below_size (by repeat (first | (with_reducible first | exact HB.out | apply below_alloc | apply pw_below_drewN | apply below_drew1 | refine below_set ?_ GE252.out | refine below_set ?_ GE253.out | refine below_set ?_ GE256.out) | exact HB.out))) : w.heap.size ≤ gb257))
              have n7_ := Aside0.mk ((by rw [hg]; exact Nat.ne_of_lt (blk_lt (g := gb252) (o := .cells #[.int .i64 a0_0, .slice (some ad254) l0_1.length c0_1, .string a0_2] 26 (0, 0)) (by (with_reducible repeat (first | refine blk_drewN ?_ _ | refine blk_drew ?_ | refine blk_alloc ?_ _)); exact BK252.out)) : gb252 ≠ gb257))
              have n8_ := Aside0.mk ((by rw [hg]; exact Nat.ne_of_gt (blk_lt (g := gb252) (o := .cells #[.int .i64 a0_0, .slice (some ad254) l0_1.length c0_1, .string a0_2] 26 (0, 0)) (by (with_reducible repeat (first | refine blk_drewN ?_ _ | refine blk_drew ?_ | refine blk_alloc ?_ _)); exact BK252.out)) : gb257 ≠ gb252))
              have n9_ := Aside0.mk ((by rw [hg]; exact Nat.ne_of_lt (blk_lt (g := gb253) (o := .cells #[.int .i64 a1_0, .slice (some ad255) l1_1.length c1_1, .string a1_2] 26 (0, 0)) (by (with_reducible repeat (first | refine blk_drewN ?_ _ | refine blk_drew ?_ | refine blk_alloc ?_ _)); exact BK253.out)) : gb253 ≠ gb257))
              have n10_ := Aside0.mk ((by rw [hg]; exact Nat.ne_of_gt (blk_lt (g := gb253) (o := .cells #[.int .i64 a1_0, .slice (some ad255) l1_1.length c1_1, .string a1_2] 26 (0, 0)) (by (with_reducible repeat (first | refine blk_drewN ?_ _ | refine blk_drew ?_ | refine blk_alloc ?_ _)); exact BK253.out)) : gb257 ≠ gb253))
              have n11_ := Aside0.mk ((by rw [hg]; exact Nat.ne_of_lt (blk_lt (g := gb256) (o := .cells #[.string (⟨#[]⟩ : ByteArray), .string (⟨#[]⟩ : ByteArray)] 54 (0, 0)) (by (with_reducible repeat (first | refine blk_drewN ?_ _ | refine blk_drew ?_ | refine blk_alloc ?_ _)); exact BK256.out)) : gb256 ≠ gb257))
              have n12_ := Aside0.mk ((by rw [hg]; exact Nat.ne_of_gt (blk_lt (g := gb256) (o := .cells #[.string (⟨#[]⟩ : ByteArray), .string (⟨#[]⟩ : ByteArray)] 54 (0, 0)) (by (with_reducible repeat (first | refine blk_drewN ?_ _ | refine blk_drew ?_ | refine blk_alloc ?_ _)); exact BK256.out)) : gb257 ≠ gb256))
              clear BK252
              clear BK253
              clear BK256
              clear HB
              have BK252 := n0_
              have BK253 := n1_
              have BK256 := n2_
              have HB := n3_
              have BK257 := n4_
              have GW257 := n5_
              have GE257 := n6_
              have NB252_257 := n7_
              have NB257_252 := n8_
              have NB253_257 := n9_
              have NB257_253 := n10_
              have NB256_257 := n11_
              have NB257_256 := n12_
              clear n0_ n1_ n2_ n3_ n4_ n5_ n6_ n7_ n8_ n9_ n10_ n11_ n12_
              clear hb hbox hg
              refine hK.out _ _ ⟨(blk_cell BK252.out 0).trans rfl, (blk_cell BK252.out 1).trans rfl, (blk_cell BK252.out 2).trans rfl, (blk_cell BK253.out 0).trans rfl, (blk_cell BK253.out 1).trans rfl, (blk_cell BK253.out 2).trans rfl, ((HB.out.cell (World.block_lt_of_cell? w _ hw254_0)).trans hw254_0), ((HB.out.cell (World.block_lt_of_cell? w _ hw254_1)).trans hw254_1), ((HB.out.cell (World.block_lt_of_cell? w _ hw255_0)).trans hw255_0), ((HB.out.cell (World.block_lt_of_cell? w _ hw255_1)).trans hw255_1)⟩ (fun hHeld => ?_)
              clear hK K
              refine norm_ (a' := ?_) ?_ ?_
              rotate_left
              ·show Act.put _ (some 7) _ = _
               simp only [Act.put, List.setIfInBounds_toArray, List.set_cons_zero, List.set_cons_succ, i64_w, i32_w]
               rfl
              exact norm_ (by simp only [putAll, Act.put, List.setIfInBounds_toArray, List.set_cons_zero, List.set_cons_succ]) (hCont (gb256, gb257) _ ⟨hHeld, (by (with_reducible repeat (first | refine blk_drewN ?_ _ | refine blk_drew ?_ | refine blk_alloc ?_ _)); exact BK252.out), (by (with_reducible repeat (first | refine blk_drewN ?_ _ | refine blk_drew ?_ | refine blk_alloc ?_ _)); exact BK253.out), (by (with_reducible repeat (first | refine blk_drewN ?_ _ | refine blk_drew ?_ | refine blk_alloc ?_ _)); exact BK256.out), (by (with_reducible repeat (first | refine blk_drewN ?_ _ | refine blk_drew ?_ | refine blk_alloc ?_ _)); exact BK257.out), GW256.out, GE256.out, NB252_256.out, NB256_252.out, NB253_256.out, NB256_253.out, NB257_256.out, NB256_257.out, GW257.out, GE257.out, NB252_257.out, NB257_252.out, NB253_257.out, NB257_253.out, (by repeat (first | (with_reducible first | exact HB.out | apply below_alloc | apply pw_below_drewN | apply below_drew1 | refine below_set ?_ GE252.out | refine below_set ?_ GE253.out | refine below_set ?_ GE256.out | refine below_set ?_ GE257.out) | exact HB.out))⟩)
             ·skip
              refine box_step ?hg (N := 7) ?hd (cs := #[.string (⟨#[]⟩ : ByteArray), .string (⟨#[]⟩ : ByteArray)]) (t := 54) ?hr ?_; (case hd => rfl); (case hg => rfl); (case hr => first | (go_simp; done) | (go_simp; rfl))
              intro gb257 hg w23 hbox hb
              have n0_ := Aside0.mk (blk_below (g := gb252) (o := .cells #[.int .i64 a0_0, .slice (some ad254) l0_1.length c0_1, .string a0_2] 26 (0, 0)) (by (with_reducible repeat (first | refine blk_drewN ?_ _ | refine blk_drew ?_ | refine blk_alloc ?_ _)); exact BK252.out) hb)
              have n1_ := Aside0.mk (blk_below (g := gb253) (o := .cells #[.int .i64 a1_0, .slice (some ad255) l1_1.length c1_1, .string a1_2] 26 (0, 0)) (by (with_reducible repeat (first | refine blk_drewN ?_ _ | refine blk_drew ?_ | refine blk_alloc ?_ _)); exact BK253.out) hb)
              have n2_ := Aside0.mk (below_step (by repeat (first | (with_reducible first | exact HB.out | apply below_alloc | apply pw_below_drewN | apply below_drew1 | refine below_set ?_ GE252.out | refine below_set ?_ GE253.out) | exact HB.out)) hb)
              have n3_ := Aside0.mk (hbox)
              have n4_ := Aside0.mk ((by rw [hg]; exact (below_size (by repeat (first | (with_reducible first | exact HB.out | apply below_alloc | apply pw_below_drewN | apply below_drew1 | refine below_set ?_ GE252.out | refine below_set ?_ GE253.out) | exact HB.out))) : w.heap.size ≤ gb257))
              have n5_ := Aside0.mk ((by rw [hg]; exact (below_size (by repeat (first | (with_reducible first | exact HB.out | apply below_alloc | apply pw_below_drewN | apply below_drew1 | refine below_set ?_ GE252.out | refine below_set ?_ GE253.out) | exact HB.out))) : w.heap.size ≤ gb257))
              have n6_ := Aside0.mk ((by rw [hg]; exact Nat.ne_of_lt (blk_lt (g := gb252) (o := .cells #[.int .i64 a0_0, .slice (some ad254) l0_1.length c0_1, .string a0_2] 26 (0, 0)) (by (with_reducible repeat (first | refine blk_drewN ?_ _ | refine blk_drew ?_ | refine blk_alloc ?_ _)); exact BK252.out)) : gb252 ≠ gb257))
              have n7_ := Aside0.mk ((by rw [hg]; exact Nat.ne_of_gt (blk_lt (g := gb252) (o := .cells #[.int .i64 a0_0, .slice (some ad254) l0_1.length c0_1, .string a0_2] 26 (0, 0)) (by (with_reducible repeat (first | refine blk_drewN ?_ _ | refine blk_drew ?_ | refine blk_alloc ?_ _)); exact BK252.out)) : gb257 ≠ gb252))
              have n8_ := Aside0.mk ((by rw [hg]; exact Nat.ne_of_lt (blk_lt (g := gb253) (o := .cells #[.int .i64 a1_0, .slice (some ad255) l1_1.length c1_1, .string a1_2] 26 (0, 0)) (by (with_reducible repeat (first | refine blk_drewN ?_ _ | refine blk_drew ?_ | refine blk_alloc ?_ _)); exact BK253.out)) : gb253 ≠ gb257))
              have n9_ := Aside0.mk ((by rw [hg]; exact Nat.ne_of_gt (blk_lt (g := gb253) (o := .cells #[.int .i64 a1_0, .slice (some ad255) l1_1.length c1_1, .string a1_2] 26 (0, 0)) (by (with_reducible repeat (first | refine blk_drewN ?_ _ | refine blk_drew ?_ | refine blk_alloc ?_ _)); exact BK253.out)) : gb257 ≠ gb253))
              clear BK252
              clear BK253
              clear HB
              have BK252 := n0_
              have BK253 := n1_
              have HB := n2_
              have BK257 := n3_
              have GW257 := n4_
              have GE257 := n5_
              have NB252_257 := n6_
              have NB257_252 := n7_
              have NB253_257 := n8_
              have NB257_253 := n9_
              clear n0_ n1_ n2_ n3_ n4_ n5_ n6_ n7_ n8_ n9_
              clear hb hbox hg
              refine hK.out _ _ ⟨(blk_cell BK252.out 0).trans rfl, (blk_cell BK252.out 1).trans rfl, (blk_cell BK252.out 2).trans rfl, (blk_cell BK253.out 0).trans rfl, (blk_cell BK253.out 1).trans rfl, (blk_cell BK253.out 2).trans rfl, ((HB.out.cell (World.block_lt_of_cell? w _ hw254_0)).trans hw254_0), ((HB.out.cell (World.block_lt_of_cell? w _ hw254_1)).trans hw254_1), ((HB.out.cell (World.block_lt_of_cell? w _ hw255_0)).trans hw255_0), ((HB.out.cell (World.block_lt_of_cell? w _ hw255_1)).trans hw255_1)⟩ (fun hHeld => ?_)
              clear hK K
              refine norm_ (a' := ?_) ?_ ?_
              rotate_left
              ·show Act.put _ (some 7) _ = _
               simp only [Act.put, List.setIfInBounds_toArray, List.set_cons_zero, List.set_cons_succ, i64_w, i32_w]
               rfl
              refine one_ (i := 10) (N := some 6) #[true, true, true, true, true, true, true, true, true, true, true, true, false, false] rfl rfl (one_of HT_.out (by kernel_rfl)) (by decide) (fun K hK => ?_)
              refine box_step ?hg (N := 6) ?hd (cs := #[.string (⟨#[]⟩ : ByteArray), .string (⟨#[]⟩ : ByteArray)]) (t := 54) ?hr ?_; (case hd => rfl); (case hg => rfl); (case hr => first | (go_simp; done) | (go_simp; rfl))
              intro gb256 hg w24 hbox hb
              have n0_ := Aside0.mk (blk_below (g := gb252) (o := .cells #[.int .i64 a0_0, .slice (some ad254) l0_1.length c0_1, .string a0_2] 26 (0, 0)) (by (with_reducible repeat (first | refine blk_drewN ?_ _ | refine blk_drew ?_ | refine blk_alloc ?_ _)); exact BK252.out) hb)
              have n1_ := Aside0.mk (blk_below (g := gb253) (o := .cells #[.int .i64 a1_0, .slice (some ad255) l1_1.length c1_1, .string a1_2] 26 (0, 0)) (by (with_reducible repeat (first | refine blk_drewN ?_ _ | refine blk_drew ?_ | refine blk_alloc ?_ _)); exact BK253.out) hb)
              have n2_ := Aside0.mk (blk_below (g := gb257) (o := .cells #[.string (⟨#[]⟩ : ByteArray), .string (⟨#[]⟩ : ByteArray)] 54 (0, 0)) (by (with_reducible repeat (first | refine blk_drewN ?_ _ | refine blk_drew ?_ | refine blk_alloc ?_ _)); exact BK257.out) hb)
              have n3_ := Aside0.mk (below_step (by repeat (first | (with_reducible first | exact HB.out | apply below_alloc | apply pw_below_drewN | apply below_drew1 | refine below_set ?_ GE252.out | refine below_set ?_ GE253.out | refine below_set ?_ GE257.out) | exact HB.out)) hb)
              have n4_ := Aside0.mk (hbox)
              have n5_ := Aside0.mk ((by rw [hg]; exact (below_size (by repeat (first | (with_reducible first | exact HB.out | apply below_alloc | apply pw_below_drewN | apply below_drew1 | refine below_set ?_ GE252.out | refine below_set ?_ GE253.out | refine below_set ?_ GE257.out) | exact HB.out))) : w.heap.size ≤ gb256))
              have n6_ := Aside0.mk ((by rw [hg]; exact (below_size (by repeat (first | (with_reducible first | exact HB.out | apply below_alloc | apply pw_below_drewN | apply below_drew1 | refine below_set ?_ GE252.out | refine below_set ?_ GE253.out | refine below_set ?_ GE257.out) | exact HB.out))) : w.heap.size ≤ gb256))
              have n7_ := Aside0.mk ((by rw [hg]; exact Nat.ne_of_lt (blk_lt (g := gb252) (o := .cells #[.int .i64 a0_0, .slice (some ad254) l0_1.length c0_1, .string a0_2] 26 (0, 0)) (by (with_reducible repeat (first | refine blk_drewN ?_ _ | refine blk_drew ?_ | refine blk_alloc ?_ _)); exact BK252.out)) : gb252 ≠ gb256))
              have n8_ := Aside0.mk ((by rw [hg]; exact Nat.ne_of_gt (blk_lt (g := gb252) (o := .cells #[.int .i64 a0_0, .slice (some ad254) l0_1.length c0_1, .string a0_2] 26 (0, 0)) (by (with_reducible repeat (first | refine blk_drewN ?_ _ | refine blk_drew ?_ | refine blk_alloc ?_ _)); exact BK252.out)) : gb256 ≠ gb252))
              have n9_ := Aside0.mk ((by rw [hg]; exact Nat.ne_of_lt (blk_lt (g := gb253) (o := .cells #[.int .i64 a1_0, .slice (some ad255) l1_1.length c1_1, .string a1_2] 26 (0, 0)) (by (with_reducible repeat (first | refine blk_drewN ?_ _ | refine blk_drew ?_ | refine blk_alloc ?_ _)); exact BK253.out)) : gb253 ≠ gb256))
              have n10_ := Aside0.mk ((by rw [hg]; exact Nat.ne_of_gt (blk_lt (g := gb253) (o := .cells #[.int .i64 a1_0, .slice (some ad255) l1_1.length c1_1, .string a1_2] 26 (0, 0)) (by (with_reducible repeat (first | refine blk_drewN ?_ _ | refine blk_drew ?_ | refine blk_alloc ?_ _)); exact BK253.out)) : gb256 ≠ gb253))
              have n11_ := Aside0.mk ((by rw [hg]; exact Nat.ne_of_lt (blk_lt (g := gb257) (o := .cells #[.string (⟨#[]⟩ : ByteArray), .string (⟨#[]⟩ : ByteArray)] 54 (0, 0)) (by (with_reducible repeat (first | refine blk_drewN ?_ _ | refine blk_drew ?_ | refine blk_alloc ?_ _)); exact BK257.out)) : gb257 ≠ gb256))
              have n12_ := Aside0.mk ((by rw [hg]; exact Nat.ne_of_gt (blk_lt (g := gb257) (o := .cells #[.string (⟨#[]⟩ : ByteArray), .string (⟨#[]⟩ : ByteArray)] 54 (0, 0)) (by (with_reducible repeat (first | refine blk_drewN ?_ _ | refine blk_drew ?_ | refine blk_alloc ?_ _)); exact BK257.out)) : gb256 ≠ gb257))
              clear BK252
              clear BK253
              clear BK257
              clear HB
              have BK252 := n0_
              have BK253 := n1_
              have BK257 := n2_
              have HB := n3_
              have BK256 := n4_
              have GW256 := n5_
              have GE256 := n6_
              have NB252_256 := n7_
              have NB256_252 := n8_
              have NB253_256 := n9_
              have NB256_253 := n10_
              have NB257_256 := n11_
              have NB256_257 := n12_
              clear n0_ n1_ n2_ n3_ n4_ n5_ n6_ n7_ n8_ n9_ n10_ n11_ n12_
              clear hb hbox hg
              refine hK.out _ _ ⟨(blk_cell BK252.out 0).trans rfl, (blk_cell BK252.out 1).trans rfl, (blk_cell BK252.out 2).trans rfl, (blk_cell BK253.out 0).trans rfl, (blk_cell BK253.out 1).trans rfl, (blk_cell BK253.out 2).trans rfl, ((HB.out.cell (World.block_lt_of_cell? w _ hw254_0)).trans hw254_0), ((HB.out.cell (World.block_lt_of_cell? w _ hw254_1)).trans hw254_1), ((HB.out.cell (World.block_lt_of_cell? w _ hw255_0)).trans hw255_0), ((HB.out.cell (World.block_lt_of_cell? w _ hw255_1)).trans hw255_1)⟩ (fun hHeld => ?_)
              clear hK K
              refine norm_ (a' := ?_) ?_ ?_
              rotate_left
              ·show Act.put _ (some 6) _ = _
               simp only [Act.put, List.setIfInBounds_toArray, List.set_cons_zero, List.set_cons_succ, i64_w, i32_w]
               rfl
              exact norm_ (by simp only [putAll, Act.put, List.setIfInBounds_toArray, List.set_cons_zero, List.set_cons_succ]) (hCont (gb256, gb257) _ ⟨hHeld, (by (with_reducible repeat (first | refine blk_drewN ?_ _ | refine blk_drew ?_ | refine blk_alloc ?_ _)); exact BK252.out), (by (with_reducible repeat (first | refine blk_drewN ?_ _ | refine blk_drew ?_ | refine blk_alloc ?_ _)); exact BK253.out), (by (with_reducible repeat (first | refine blk_drewN ?_ _ | refine blk_drew ?_ | refine blk_alloc ?_ _)); exact BK256.out), (by (with_reducible repeat (first | refine blk_drewN ?_ _ | refine blk_drew ?_ | refine blk_alloc ?_ _)); exact BK257.out), GW256.out, GE256.out, NB252_256.out, NB256_252.out, NB253_256.out, NB256_253.out, NB257_256.out, NB256_257.out, GW257.out, GE257.out, NB252_257.out, NB257_252.out, NB253_257.out, NB257_253.out, (by repeat (first | (with_reducible first | exact HB.out | apply below_alloc | apply pw_below_drewN | apply below_drew1 | refine below_set ?_ GE252.out | refine below_set ?_ GE253.out | refine below_set ?_ GE257.out | refine below_set ?_ GE256.out) | exact HB.out))⟩)
            rintro ⟨gb256, gb257⟩ w25 ⟨hS_, h0_, h1_, h2_, h3_, h4_, h5_, h6_, h7_, h8_, h9_, h10_, h11_, h12_, h13_, h14_, h15_, h16_, h17_, h18_⟩
            have n0_ : Aside0 (w25.heap[gb252]? = some (.cells #[.int .i64 a0_0, .slice (some ad254) l0_1.length c0_1, .string a0_2] 26 (0, 0))) := ⟨h0_⟩
            have n1_ : Aside0 (w25.heap[gb253]? = some (.cells #[.int .i64 a1_0, .slice (some ad255) l1_1.length c1_1, .string a1_2] 26 (0, 0))) := ⟨h1_⟩
            have n2_ : Aside0 (w25.heap[gb256]? = some (.cells #[.string (⟨#[]⟩ : ByteArray), .string (⟨#[]⟩ : ByteArray)] 54 (0, 0))) := ⟨h2_⟩
            have n3_ : Aside0 (w25.heap[gb257]? = some (.cells #[.string (⟨#[]⟩ : ByteArray), .string (⟨#[]⟩ : ByteArray)] 54 (0, 0))) := ⟨h3_⟩
            have n4_ : Aside0 (w.heap.size ≤ gb256) := ⟨h4_⟩
            have n5_ : Aside0 (w.heap.size ≤ gb256) := ⟨h5_⟩
            have n6_ : Aside0 (gb252 ≠ gb256) := ⟨h6_⟩
            have n7_ : Aside0 (gb256 ≠ gb252) := ⟨h7_⟩
            have n8_ : Aside0 (gb253 ≠ gb256) := ⟨h8_⟩
            have n9_ : Aside0 (gb256 ≠ gb253) := ⟨h9_⟩
            have n10_ : Aside0 (gb257 ≠ gb256) := ⟨h10_⟩
            have n11_ : Aside0 (gb256 ≠ gb257) := ⟨h11_⟩
            have n12_ : Aside0 (w.heap.size ≤ gb257) := ⟨h12_⟩
            have n13_ : Aside0 (w.heap.size ≤ gb257) := ⟨h13_⟩
            have n14_ : Aside0 (gb252 ≠ gb257) := ⟨h14_⟩
            have n15_ : Aside0 (gb257 ≠ gb252) := ⟨h15_⟩
            have n16_ : Aside0 (gb253 ≠ gb257) := ⟨h16_⟩
            have n17_ : Aside0 (gb257 ≠ gb253) := ⟨h17_⟩
            have n18_ : Aside0 (Below w.heap.size w w25) := ⟨h18_⟩
            clear BK252
            clear BK253
            clear HB
            clear h0_ h1_ h2_ h3_ h4_ h5_ h6_ h7_ h8_ h9_ h10_ h11_ h12_ h13_ h14_ h15_ h16_ h17_ h18_
            have BK252 := n0_
            have BK253 := n1_
            have BK256 := n2_
            have BK257 := n3_
            have GW256 := n4_
            have GE256 := n5_
            have NB252_256 := n6_
            have NB256_252 := n7_
            have NB253_256 := n8_
            have NB256_253 := n9_
            have NB257_256 := n10_
            have NB256_257 := n11_
            have GW257 := n12_
            have GE257 := n13_
            have NB252_257 := n14_
            have NB257_252 := n15_
            have NB253_257 := n16_
            have NB257_253 := n17_
            have HB := n18_
            clear n0_ n1_ n2_ n3_ n4_ n5_ n6_ n7_ n8_ n9_ n10_ n11_ n12_ n13_ n14_ n15_ n16_ n17_ n18_
            have hHeld : w25.cell? ⟨gb252, 0, none⟩ = some (.int .i64 a0_0) ∧ w25.cell? ⟨gb252, 1, none⟩ = some (.slice (some ad254) l0_1.length c0_1) ∧ w25.cell? ⟨gb252, 2, none⟩ = some (.string a0_2) ∧ w25.cell? ⟨gb253, 0, none⟩ = some (.int .i64 a1_0) ∧ w25.cell? ⟨gb253, 1, none⟩ = some (.slice (some ad255) l1_1.length c1_1) ∧ w25.cell? ⟨gb253, 2, none⟩ = some (.string a1_2) ∧ w25.cell? (ad254.add ((x5_1).toNat * 2)) = some (.string ((rd_T54 l0_1 x5_1).f0)) ∧ w25.cell? ⟨(ad254.add ((x5_1).toNat * 2)).block, (ad254.add ((x5_1).toNat * 2)).off + 1, none⟩ = some (.string ((rd_T54 l0_1 x5_1).f1)) ∧ w25.cell? (ad255.add ((x5_1).toNat * 2)) = some (.string ((rd_T54 l1_1 x5_1).f0)) ∧ w25.cell? ⟨(ad255.add ((x5_1).toNat * 2)).block, (ad255.add ((x5_1).toNat * 2)).off + 1, none⟩ = some (.string ((rd_T54 l1_1 x5_1).f1)) := hS_
            refine norm_ (a' := ?_) ?_ ?_
            rotate_left
            ·simp only [putAll, Act.put, List.setIfInBounds_toArray, List.set_cons_zero, List.set_cons_succ]
             rfl
            refine one_ (i := 12) (N := none) #[true, true, true, true, true, true, true, true, true, true, true, true, true, false] rfl rfl (one_of HT_.out (by kernel_rfl)) (by decide) (fun K hK => ?_)
            have hs26 : w25.cell? ⟨gb256, 0, none⟩ = some (.string (⟨#[]⟩ : ByteArray)) := (blk_cell BK256.out 0).trans rfl
            have hfs26 := blk_frozen BK256.out 0
            have hns26_0 := NB252_256.out
            have hns26_1 := NB253_256.out
            have hns26_3 := NB257_256.out
            have hms26_0 := NB256_252.out
            have hms26_1 := NB256_253.out
            have hms26_3 := NB256_257.out
            have hs27 : w25.cell? ⟨gb256, 1, none⟩ = some (.string (⟨#[]⟩ : ByteArray)) := (blk_cell BK256.out 1).trans rfl
            have hfs27 := blk_frozen BK256.out 1
            have hns27_0 := NB252_256.out
            have hns27_1 := NB253_256.out
            have hns27_3 := NB257_256.out
            have hms27_0 := NB256_252.out
            have hms27_1 := NB256_253.out
            have hms27_3 := NB256_257.out
            refine skip_ (w1 := ?_) (by rfl) rfl ?_ ?_
            rotate_left
            ·go_simp
             rfl
            refine hK.out _ _ ⟨((cell_far (p := ⟨gb256, _, none⟩) NB252_256.out _).trans (((cell_far (p := ⟨gb256, _, none⟩) NB252_256.out _).trans (hHeld.1)))), ((cell_far (p := ⟨gb256, _, none⟩) NB252_256.out _).trans (((cell_far (p := ⟨gb256, _, none⟩) NB252_256.out _).trans (hHeld.2.1)))), ((cell_far (p := ⟨gb256, _, none⟩) NB252_256.out _).trans (((cell_far (p := ⟨gb256, _, none⟩) NB252_256.out _).trans (hHeld.2.2.1)))), ((cell_far (p := ⟨gb256, _, none⟩) NB253_256.out _).trans (((cell_far (p := ⟨gb256, _, none⟩) NB253_256.out _).trans (hHeld.2.2.2.1)))), ((cell_far (p := ⟨gb256, _, none⟩) NB253_256.out _).trans (((cell_far (p := ⟨gb256, _, none⟩) NB253_256.out _).trans (hHeld.2.2.2.2.1)))), ((cell_far (p := ⟨gb256, _, none⟩) NB253_256.out _).trans (((cell_far (p := ⟨gb256, _, none⟩) NB253_256.out _).trans (hHeld.2.2.2.2.2.1)))), ((cell_far (p := ⟨gb256, _, none⟩) (by first | exact Nat.ne_of_lt (Nat.lt_of_lt_of_le (by have := World.block_lt_of_cell? _ _ hw254_0; first | rwa [add_block] at this | exact this) GW256.out) | (rw [add_block]; exact Nat.ne_of_lt (Nat.lt_of_lt_of_le (by have := World.block_lt_of_cell? _ _ hw254_0; first | rwa [add_block] at this | exact this) GW256.out)) | (show (Addr.add _ _).block ≠ _; rw [add_block]; exact Nat.ne_of_lt (Nat.lt_of_lt_of_le (by have := World.block_lt_of_cell? _ _ hw254_0; first | rwa [add_block] at this | exact this) GW256.out)) | (dsimp only; exact Nat.ne_of_lt (Nat.lt_of_lt_of_le (by have := World.block_lt_of_cell? _ _ hw254_0; first | rwa [add_block] at this | exact this) GW256.out))) _).trans (((cell_far (p := ⟨gb256, _, none⟩) (by first | exact Nat.ne_of_lt (Nat.lt_of_lt_of_le (by have := World.block_lt_of_cell? _ _ hw254_0; first | rwa [add_block] at this | exact this) GW256.out) | (rw [add_block]; exact Nat.ne_of_lt (Nat.lt_of_lt_of_le (by have := World.block_lt_of_cell? _ _ hw254_0; first | rwa [add_block] at this | exact this) GW256.out)) | (show (Addr.add _ _).block ≠ _; rw [add_block]; exact Nat.ne_of_lt (Nat.lt_of_lt_of_le (by have := World.block_lt_of_cell? _ _ hw254_0; first | rwa [add_block] at this | exact this) GW256.out)) | (dsimp only; exact Nat.ne_of_lt (Nat.lt_of_lt_of_le (by have := World.block_lt_of_cell? _ _ hw254_0; first | rwa [add_block] at this | exact this) GW256.out))) _).trans (hHeld.2.2.2.2.2.2.1)))), ((cell_far (p := ⟨gb256, _, none⟩) (by first | exact Nat.ne_of_lt (Nat.lt_of_lt_of_le (by have := World.block_lt_of_cell? _ _ hw254_1; first | rwa [add_block] at this | exact this) GW256.out) | (rw [add_block]; exact Nat.ne_of_lt (Nat.lt_of_lt_of_le (by have := World.block_lt_of_cell? _ _ hw254_1; first | rwa [add_block] at this | exact this) GW256.out)) | (show (Addr.add _ _).block ≠ _; rw [add_block]; exact Nat.ne_of_lt (Nat.lt_of_lt_of_le (by have := World.block_lt_of_cell? _ _ hw254_1; first | rwa [add_block] at this | exact this) GW256.out)) | (dsimp only; exact Nat.ne_of_lt (Nat.lt_of_lt_of_le (by have := World.block_lt_of_cell? _ _ hw254_1; first | rwa [add_block] at this | exact this) GW256.out))) _).trans (((cell_far (p := ⟨gb256, _, none⟩) (by first | exact Nat.ne_of_lt (Nat.lt_of_lt_of_le (by have := World.block_lt_of_cell? _ _ hw254_1; first | rwa [add_block] at this | exact this) GW256.out) | (rw [add_block]; exact Nat.ne_of_lt (Nat.lt_of_lt_of_le (by have := World.block_lt_of_cell? _ _ hw254_1; first | rwa [add_block] at this | exact this) GW256.out)) | (show (Addr.add _ _).block ≠ _; rw [add_block]; exact Nat.ne_of_lt (Nat.lt_of_lt_of_le (by have := World.block_lt_of_cell? _ _ hw254_1; first | rwa [add_block] at this | exact this) GW256.out)) | (dsimp only; exact Nat.ne_of_lt (Nat.lt_of_lt_of_le (by have := World.block_lt_of_cell? _ _ hw254_1; first | rwa [add_block] at this | exact this) GW256.out))) _).trans (hHeld.2.2.2.2.2.2.2.1)))), ((cell_far (p := ⟨gb256, _, none⟩) (by first | exact Nat.ne_of_lt (Nat.lt_of_lt_of_le (by have := World.block_lt_of_cell? _ _ hw255_0; first | rwa [add_block] at this | exact this) GW256.out) | (rw [add_block]; exact Nat.ne_of_lt (Nat.lt_of_lt_of_le (by have := World.block_lt_of_cell? _ _ hw255_0; first | rwa [add_block] at this | exact this) GW256.out)) | (show (Addr.add _ _).block ≠ _; rw [add_block]; exact Nat.ne_of_lt (Nat.lt_of_lt_of_le (by have := World.block_lt_of_cell? _ _ hw255_0; first | rwa [add_block] at this | exact this) GW256.out)) | (dsimp only; exact Nat.ne_of_lt (Nat.lt_of_lt_of_le (by have := World.block_lt_of_cell? _ _ hw255_0; first | rwa [add_block] at this | exact this) GW256.out))) _).trans (((cell_far (p := ⟨gb256, _, none⟩) (by first | exact Nat.ne_of_lt (Nat.lt_of_lt_of_le (by have := World.block_lt_of_cell? _ _ hw255_0; first | rwa [add_block] at this | exact this) GW256.out) | (rw [add_block]; exact Nat.ne_of_lt (Nat.lt_of_lt_of_le (by have := World.block_lt_of_cell? _ _ hw255_0; first | rwa [add_block] at this | exact this) GW256.out)) | (show (Addr.add _ _).block ≠ _; rw [add_block]; exact Nat.ne_of_lt (Nat.lt_of_lt_of_le (by have := World.block_lt_of_cell? _ _ hw255_0; first | rwa [add_block] at this | exact this) GW256.out)) | (dsimp only; exact Nat.ne_of_lt (Nat.lt_of_lt_of_le (by have := World.block_lt_of_cell? _ _ hw255_0; first | rwa [add_block] at this | exact this) GW256.out))) _).trans (hHeld.2.2.2.2.2.2.2.2.1)))), ((cell_far (p := ⟨gb256, _, none⟩) (by first | exact Nat.ne_of_lt (Nat.lt_of_lt_of_le (by have := World.block_lt_of_cell? _ _ hw255_1; first | rwa [add_block] at this | exact this) GW256.out) | (rw [add_block]; exact Nat.ne_of_lt (Nat.lt_of_lt_of_le (by have := World.block_lt_of_cell? _ _ hw255_1; first | rwa [add_block] at this | exact this) GW256.out)) | (show (Addr.add _ _).block ≠ _; rw [add_block]; exact Nat.ne_of_lt (Nat.lt_of_lt_of_le (by have := World.block_lt_of_cell? _ _ hw255_1; first | rwa [add_block] at this | exact this) GW256.out)) | (dsimp only; exact Nat.ne_of_lt (Nat.lt_of_lt_of_le (by have := World.block_lt_of_cell? _ _ hw255_1; first | rwa [add_block] at this | exact this) GW256.out))) _).trans (((cell_far (p := ⟨gb256, _, none⟩) (by first | exact Nat.ne_of_lt (Nat.lt_of_lt_of_le (by have := World.block_lt_of_cell? _ _ hw255_1; first | rwa [add_block] at this | exact this) GW256.out) | (rw [add_block]; exact Nat.ne_of_lt (Nat.lt_of_lt_of_le (by have := World.block_lt_of_cell? _ _ hw255_1; first | rwa [add_block] at this | exact this) GW256.out)) | (show (Addr.add _ _).block ≠ _; rw [add_block]; exact Nat.ne_of_lt (Nat.lt_of_lt_of_le (by have := World.block_lt_of_cell? _ _ hw255_1; first | rwa [add_block] at this | exact this) GW256.out)) | (dsimp only; exact Nat.ne_of_lt (Nat.lt_of_lt_of_le (by have := World.block_lt_of_cell? _ _ hw255_1; first | rwa [add_block] at this | exact this) GW256.out))) _).trans (hHeld.2.2.2.2.2.2.2.2.2))))⟩ (fun hHeld => ?_)
            clear hK K
            refine one_ (i := 13) (N := none) #[true, true, true, true, true, true, true, true, true, true, true, true, true, true] rfl rfl (one_of HT_.out (by kernel_rfl)) (by decide) (fun K hK => ?_)
            have hs28 : w25.cell? ⟨gb257, 0, none⟩ = some (.string (⟨#[]⟩ : ByteArray)) := (blk_cell BK257.out 0).trans rfl
            have hfs28 := blk_frozen BK257.out 0
            have hns28_0 := NB252_257.out
            have hns28_1 := NB253_257.out
            have hns28_2 := NB256_257.out
            have hms28_0 := NB257_252.out
            have hms28_1 := NB257_253.out
            have hms28_2 := NB257_256.out
            have hs29 : w25.cell? ⟨gb257, 1, none⟩ = some (.string (⟨#[]⟩ : ByteArray)) := (blk_cell BK257.out 1).trans rfl
            have hfs29 := blk_frozen BK257.out 1
            have hns29_0 := NB252_257.out
            have hns29_1 := NB253_257.out
            have hns29_2 := NB256_257.out
            have hms29_0 := NB257_252.out
            have hms29_1 := NB257_253.out
            have hms29_2 := NB257_256.out
            refine skip_ (w1 := ?_) (by rfl) rfl ?_ ?_
            rotate_left
            ·go_simp
             rfl
            refine hK.out _ _ ⟨((cell_far (p := ⟨gb257, _, none⟩) NB252_257.out _).trans (((cell_far (p := ⟨gb257, _, none⟩) NB252_257.out _).trans (hHeld.1)))), ((cell_far (p := ⟨gb257, _, none⟩) NB252_257.out _).trans (((cell_far (p := ⟨gb257, _, none⟩) NB252_257.out _).trans (hHeld.2.1)))), ((cell_far (p := ⟨gb257, _, none⟩) NB252_257.out _).trans (((cell_far (p := ⟨gb257, _, none⟩) NB252_257.out _).trans (hHeld.2.2.1)))), ((cell_far (p := ⟨gb257, _, none⟩) NB253_257.out _).trans (((cell_far (p := ⟨gb257, _, none⟩) NB253_257.out _).trans (hHeld.2.2.2.1)))), ((cell_far (p := ⟨gb257, _, none⟩) NB253_257.out _).trans (((cell_far (p := ⟨gb257, _, none⟩) NB253_257.out _).trans (hHeld.2.2.2.2.1)))), ((cell_far (p := ⟨gb257, _, none⟩) NB253_257.out _).trans (((cell_far (p := ⟨gb257, _, none⟩) NB253_257.out _).trans (hHeld.2.2.2.2.2.1)))), ((cell_far (p := ⟨gb257, _, none⟩) (by first | exact Nat.ne_of_lt (Nat.lt_of_lt_of_le (by have := World.block_lt_of_cell? _ _ hw254_0; first | rwa [add_block] at this | exact this) GW257.out) | (rw [add_block]; exact Nat.ne_of_lt (Nat.lt_of_lt_of_le (by have := World.block_lt_of_cell? _ _ hw254_0; first | rwa [add_block] at this | exact this) GW257.out)) | (show (Addr.add _ _).block ≠ _; rw [add_block]; exact Nat.ne_of_lt (Nat.lt_of_lt_of_le (by have := World.block_lt_of_cell? _ _ hw254_0; first | rwa [add_block] at this | exact this) GW257.out)) | (dsimp only; exact Nat.ne_of_lt (Nat.lt_of_lt_of_le (by have := World.block_lt_of_cell? _ _ hw254_0; first | rwa [add_block] at this | exact this) GW257.out))) _).trans (((cell_far (p := ⟨gb257, _, none⟩) (by first | exact Nat.ne_of_lt (Nat.lt_of_lt_of_le (by have := World.block_lt_of_cell? _ _ hw254_0; first | rwa [add_block] at this | exact this) GW257.out) | (rw [add_block]; exact Nat.ne_of_lt (Nat.lt_of_lt_of_le (by have := World.block_lt_of_cell? _ _ hw254_0; first | rwa [add_block] at this | exact this) GW257.out)) | (show (Addr.add _ _).block ≠ _; rw [add_block]; exact Nat.ne_of_lt (Nat.lt_of_lt_of_le (by have := World.block_lt_of_cell? _ _ hw254_0; first | rwa [add_block] at this | exact this) GW257.out)) | (dsimp only; exact Nat.ne_of_lt (Nat.lt_of_lt_of_le (by have := World.block_lt_of_cell? _ _ hw254_0; first | rwa [add_block] at this | exact this) GW257.out))) _).trans (hHeld.2.2.2.2.2.2.1)))), ((cell_far (p := ⟨gb257, _, none⟩) (by first | exact Nat.ne_of_lt (Nat.lt_of_lt_of_le (by have := World.block_lt_of_cell? _ _ hw254_1; first | rwa [add_block] at this | exact this) GW257.out) | (rw [add_block]; exact Nat.ne_of_lt (Nat.lt_of_lt_of_le (by have := World.block_lt_of_cell? _ _ hw254_1; first | rwa [add_block] at this | exact this) GW257.out)) | (show (Addr.add _ _).block ≠ _; rw [add_block]; exact Nat.ne_of_lt (Nat.lt_of_lt_of_le (by have := World.block_lt_of_cell? _ _ hw254_1; first | rwa [add_block] at this | exact this) GW257.out)) | (dsimp only; exact Nat.ne_of_lt (Nat.lt_of_lt_of_le (by have := World.block_lt_of_cell? _ _ hw254_1; first | rwa [add_block] at this | exact this) GW257.out))) _).trans (((cell_far (p := ⟨gb257, _, none⟩) (by first | exact Nat.ne_of_lt (Nat.lt_of_lt_of_le (by have := World.block_lt_of_cell? _ _ hw254_1; first | rwa [add_block] at this | exact this) GW257.out) | (rw [add_block]; exact Nat.ne_of_lt (Nat.lt_of_lt_of_le (by have := World.block_lt_of_cell? _ _ hw254_1; first | rwa [add_block] at this | exact this) GW257.out)) | (show (Addr.add _ _).block ≠ _; rw [add_block]; exact Nat.ne_of_lt (Nat.lt_of_lt_of_le (by have := World.block_lt_of_cell? _ _ hw254_1; first | rwa [add_block] at this | exact this) GW257.out)) | (dsimp only; exact Nat.ne_of_lt (Nat.lt_of_lt_of_le (by have := World.block_lt_of_cell? _ _ hw254_1; first | rwa [add_block] at this | exact this) GW257.out))) _).trans (hHeld.2.2.2.2.2.2.2.1)))), ((cell_far (p := ⟨gb257, _, none⟩) (by first | exact Nat.ne_of_lt (Nat.lt_of_lt_of_le (by have := World.block_lt_of_cell? _ _ hw255_0; first | rwa [add_block] at this | exact this) GW257.out) | (rw [add_block]; exact Nat.ne_of_lt (Nat.lt_of_lt_of_le (by have := World.block_lt_of_cell? _ _ hw255_0; first | rwa [add_block] at this | exact this) GW257.out)) | (show (Addr.add _ _).block ≠ _; rw [add_block]; exact Nat.ne_of_lt (Nat.lt_of_lt_of_le (by have := World.block_lt_of_cell? _ _ hw255_0; first | rwa [add_block] at this | exact this) GW257.out)) | (dsimp only; exact Nat.ne_of_lt (Nat.lt_of_lt_of_le (by have := World.block_lt_of_cell? _ _ hw255_0; first | rwa [add_block] at this | exact this) GW257.out))) _).trans (((cell_far (p := ⟨gb257, _, none⟩) (by first | exact Nat.ne_of_lt (Nat.lt_of_lt_of_le (by have := World.block_lt_of_cell? _ _ hw255_0; first | rwa [add_block] at this | exact this) GW257.out) | (rw [add_block]; exact Nat.ne_of_lt (Nat.lt_of_lt_of_le (by have := World.block_lt_of_cell? _ _ hw255_0; first | rwa [add_block] at this | exact this) GW257.out)) | (show (Addr.add _ _).block ≠ _; rw [add_block]; exact Nat.ne_of_lt (Nat.lt_of_lt_of_le (by have := World.block_lt_of_cell? _ _ hw255_0; first | rwa [add_block] at this | exact this) GW257.out)) | (dsimp only; exact Nat.ne_of_lt (Nat.lt_of_lt_of_le (by have := World.block_lt_of_cell? _ _ hw255_0; first | rwa [add_block] at this | exact this) GW257.out))) _).trans (hHeld.2.2.2.2.2.2.2.2.1)))), ((cell_far (p := ⟨gb257, _, none⟩) (by first | exact Nat.ne_of_lt (Nat.lt_of_lt_of_le (by have := World.block_lt_of_cell? _ _ hw255_1; first | rwa [add_block] at this | exact this) GW257.out) | (rw [add_block]; exact Nat.ne_of_lt (Nat.lt_of_lt_of_le (by have := World.block_lt_of_cell? _ _ hw255_1; first | rwa [add_block] at this | exact this) GW257.out)) | (show (Addr.add _ _).block ≠ _; rw [add_block]; exact Nat.ne_of_lt (Nat.lt_of_lt_of_le (by have := World.block_lt_of_cell? _ _ hw255_1; first | rwa [add_block] at this | exact this) GW257.out)) | (dsimp only; exact Nat.ne_of_lt (Nat.lt_of_lt_of_le (by have := World.block_lt_of_cell? _ _ hw255_1; first | rwa [add_block] at this | exact this) GW257.out))) _).trans (((cell_far (p := ⟨gb257, _, none⟩) (by first | exact Nat.ne_of_lt (Nat.lt_of_lt_of_le (by have := World.block_lt_of_cell? _ _ hw255_1; first | rwa [add_block] at this | exact this) GW257.out) | (rw [add_block]; exact Nat.ne_of_lt (Nat.lt_of_lt_of_le (by have := World.block_lt_of_cell? _ _ hw255_1; first | rwa [add_block] at this | exact this) GW257.out)) | (show (Addr.add _ _).block ≠ _; rw [add_block]; exact Nat.ne_of_lt (Nat.lt_of_lt_of_le (by have := World.block_lt_of_cell? _ _ hw255_1; first | rwa [add_block] at this | exact this) GW257.out)) | (dsimp only; exact Nat.ne_of_lt (Nat.lt_of_lt_of_le (by have := World.block_lt_of_cell? _ _ hw255_1; first | rwa [add_block] at this | exact this) GW257.out))) _).trans (hHeld.2.2.2.2.2.2.2.2.2))))⟩ (fun hHeld => ?_)
            clear hK K
            refine done_ (done_of HT_.out (by kernel_rfl)) ?_
            have hnb30 := NB256_252.out
            have hnc30 := NB252_256.out
            have hnb31 := NB256_253.out
            have hnc31 := NB253_256.out
            have hnb32 := NB256_257.out
            have hnc32 := NB257_256.out
            have hcz33_0 : w25.cell? ⟨gb256, 0, none⟩ = some (.string (⟨#[]⟩ : ByteArray)) := (blk_cell BK256.out 0).trans rfl
            have hcz33_1 : w25.cell? ⟨gb256, 1, none⟩ = some (.string (⟨#[]⟩ : ByteArray)) := (blk_cell BK256.out 1).trans rfl
            have hfz33_0 := blk_frozen BK256.out 0
            have hfz33_1 := blk_frozen BK256.out 1
            have hnb34 := NB257_252.out
            have hnc34 := NB252_257.out
            have hnb35 := NB257_253.out
            have hnc35 := NB253_257.out
            have hcz36_0 : w25.cell? ⟨gb257, 0, none⟩ = some (.string (⟨#[]⟩ : ByteArray)) := (blk_cell BK257.out 0).trans rfl
            have hcz36_1 : w25.cell? ⟨gb257, 1, none⟩ = some (.string (⟨#[]⟩ : ByteArray)) := (blk_cell BK257.out 1).trans rfl
            have hfz36_0 := blk_frozen BK257.out 0
            have hfz36_1 := blk_frozen BK257.out 1
            try go_wp2
            go_roundg kj8
            case measure => have := HK1.out; have := HJ8.out; omega
            case rel => exact ⟨(wrap64 (x5_1 + 1)), (by first | rfl | (simp; done) | (simp [*]; done)), H', ⟨by have := HK1.out; have := HJ8.out; omega⟩, ⟨by (with_reducible repeat (first | refine blk_drewN ?_ _ | refine blk_drew ?_ | refine blk_alloc ?_ _)); refine blk_far ?_ NB252_257.out _; (with_reducible repeat (first | refine blk_drewN ?_ _ | refine blk_drew ?_ | refine blk_alloc ?_ _)); refine blk_far ?_ NB252_257.out _; (with_reducible repeat (first | refine blk_drewN ?_ _ | refine blk_drew ?_ | refine blk_alloc ?_ _)); refine blk_far ?_ NB252_256.out _; (with_reducible repeat (first | refine blk_drewN ?_ _ | refine blk_drew ?_ | refine blk_alloc ?_ _)); refine blk_far ?_ NB252_256.out _; (with_reducible repeat (first | refine blk_drewN ?_ _ | refine blk_drew ?_ | refine blk_alloc ?_ _)); exact BK252.out⟩, ⟨by (with_reducible repeat (first | refine blk_drewN ?_ _ | refine blk_drew ?_ | refine blk_alloc ?_ _)); refine blk_far ?_ NB253_257.out _; (with_reducible repeat (first | refine blk_drewN ?_ _ | refine blk_drew ?_ | refine blk_alloc ?_ _)); refine blk_far ?_ NB253_257.out _; (with_reducible repeat (first | refine blk_drewN ?_ _ | refine blk_drew ?_ | refine blk_alloc ?_ _)); refine blk_far ?_ NB253_256.out _; (with_reducible repeat (first | refine blk_drewN ?_ _ | refine blk_drew ?_ | refine blk_alloc ?_ _)); refine blk_far ?_ NB253_256.out _; (with_reducible repeat (first | refine blk_drewN ?_ _ | refine blk_drew ?_ | refine blk_alloc ?_ _)); exact BK253.out⟩, ⟨by repeat (first | (with_reducible first | exact HB.out | apply below_alloc | apply pw_below_drewN | apply below_drew1 | refine below_set ?_ GE252.out | refine below_set ?_ GE253.out | refine below_set ?_ GE256.out | refine below_set ?_ GE257.out) | exact HB.out)⟩⟩
           ·rw [if_neg c21] at H
            have c21b0 : (((rd_T54 l0_1 x5_1).f1).toList == ((rd_T54 l1_1 x5_1).f1).toList) = false := beq_eq_false_iff_ne.mpr c21
            have c21b1 : (((rd_T54 l0_1 x5_1).f1).toList != ((rd_T54 l1_1 x5_1).f1).toList) = true := bne_iff_ne.mpr c21
            obtain rfl := Option.some.inj H
            try go_wp2
            have n0_ := Aside0.mk (blk_drew BK252.out)
            have n1_ := Aside0.mk (blk_drew BK253.out)
            have n2_ := Aside0.mk (below_drew1 HB.out)
            clear BK252
            clear BK253
            clear HB
            have BK252 := n0_
            have BK253 := n1_
            have HB := n2_
            clear n0_ n1_ n2_
            have p254 : 0 ≤ (x5_1 : Int) := of_decide_eq_true (by first | (with_reducible assumption) | assumption)
            have q254 : x5_1 < (l0_1.length : Int) := of_decide_eq_true (by first | (with_reducible assumption) | assumption)
            obtain ⟨ad254, e254, hx254_0, hx254_1⟩ := at_T54 HR0_1.out x5_1 p254 q254
            have hw254_1 := hx254_1
            have hw254_0 := hx254_0
            cases e254
            replace hx254_0 := (HB.out.cell (World.block_lt_of_cell? w _ hx254_0)).trans hx254_0
            replace hx254_1 := (HB.out.cell (World.block_lt_of_cell? w _ hx254_1)).trans hx254_1
            replace p254 := eq_true p254
            replace q254 := eq_true q254
            have p255 : 0 ≤ (x5_1 : Int) := of_decide_eq_true (by first | (with_reducible assumption) | assumption)
            have q255 : x5_1 < (l1_1.length : Int) := of_decide_eq_true (by first | (with_reducible assumption) | assumption)
            obtain ⟨ad255, e255, hx255_0, hx255_1⟩ := at_T54 HR1_1.out x5_1 p255 q255
            have hw255_1 := hx255_1
            have hw255_0 := hx255_0
            cases e255
            replace hx255_0 := (HB.out.cell (World.block_lt_of_cell? w _ hx255_0)).trans hx255_0
            replace hx255_1 := (HB.out.cell (World.block_lt_of_cell? w _ hx255_1)).trans hx255_1
            replace p255 := eq_true p255
            replace q255 := eq_true q255
            refine start_ (n := 14) (S := fun w' => w'.cell? ⟨gb252, 0, none⟩ = some (.int .i64 a0_0) ∧ w'.cell? ⟨gb252, 1, none⟩ = some (.slice (some ad254) l0_1.length c0_1) ∧ w'.cell? ⟨gb252, 2, none⟩ = some (.string a0_2) ∧ w'.cell? ⟨gb253, 0, none⟩ = some (.int .i64 a1_0) ∧ w'.cell? ⟨gb253, 1, none⟩ = some (.slice (some ad255) l1_1.length c1_1) ∧ w'.cell? ⟨gb253, 2, none⟩ = some (.string a1_2) ∧ w'.cell? (ad254.add ((x5_1).toNat * 2)) = some (.string ((rd_T54 l0_1 x5_1).f0)) ∧ w'.cell? ⟨(ad254.add ((x5_1).toNat * 2)).block, (ad254.add ((x5_1).toNat * 2)).off + 1, none⟩ = some (.string ((rd_T54 l0_1 x5_1).f1)) ∧ w'.cell? (ad255.add ((x5_1).toNat * 2)) = some (.string ((rd_T54 l1_1 x5_1).f0)) ∧ w'.cell? ⟨(ad255.add ((x5_1).toNat * 2)).block, (ad255.add ((x5_1).toNat * 2)).off + 1, none⟩ = some (.string ((rd_T54 l1_1 x5_1).f1))) (ds := []) #[false, false, false, false, false, false, false, false, false, false, false, false, false, false] (by kernel_rfl) rfl rfl ⟨(blk_cell BK252.out 0).trans rfl, (blk_cell BK252.out 1).trans rfl, (blk_cell BK252.out 2).trans rfl, (blk_cell BK253.out 0).trans rfl, (blk_cell BK253.out 1).trans rfl, (blk_cell BK253.out 2).trans rfl, ((HB.out.cell (World.block_lt_of_cell? w _ hw254_0)).trans hw254_0), ((HB.out.cell (World.block_lt_of_cell? w _ hw254_1)).trans hw254_1), ((HB.out.cell (World.block_lt_of_cell? w _ hw255_0)).trans hw255_0), ((HB.out.cell (World.block_lt_of_cell? w _ hw255_1)).trans hw255_1)⟩ (fun hHeld => ?_); refine with_tabW magpieref04_Before.tab6 magpieref04_Before.bits6 (fun HT_ HW_ => ?_)
            generalize wc.drew = w37 at BK252 BK253 HB hx254_0 hx254_1 hx255_0 hx255_1 hHeld ⊢
            refine pure_ (i := 0) (N := some 32) (v := ?_) (a' := ?_) #[true, false, false, false, false, false, false, false, false, false, false, false, false, false] rfl rfl (any_of HT_.out (by kernel_rfl)) (fun _ _ _ h => h) (Or.inl ⟨by rfl, ?_⟩) ?_ ?_
            rotate_left
            ·intro w'
             go_simp
             with_reducible rfl
            rotate_left
            ·simp only [Act.put, List.setIfInBounds_toArray, List.set_cons_zero, List.set_cons_succ, i64_w, i32_w]
             rfl
            refine pure_ (i := 2) (N := some 34) (v := ?_) (a' := ?_) #[true, false, true, false, false, false, false, false, false, false, false, false, false, false] rfl rfl (any_of HT_.out (by kernel_rfl)) (fun _ _ _ h => h) (Or.inl ⟨by rfl, ?_⟩) ?_ ?_
            rotate_left
            ·intro w'
             go_simp
             with_reducible rfl
            rotate_left
            ·simp only [Act.put, List.setIfInBounds_toArray, List.set_cons_zero, List.set_cons_succ, i64_w, i32_w]
             rfl
            refine pure_ (i := 5) (N := some 37) (v := ?_) (a' := ?_) #[true, false, true, false, false, true, false, false, false, false, false, false, false, false] rfl rfl (any_of HT_.out (by kernel_rfl)) (fun _ _ _ h => h) (Or.inl ⟨by rfl, ?_⟩) ?_ ?_
            rotate_left
            ·intro w'
             go_simp
             with_reducible rfl
            rotate_left
            ·simp only [Act.put, List.setIfInBounds_toArray, List.set_cons_zero, List.set_cons_succ, i64_w, i32_w]
             rfl
            refine pure_ (i := 7) (N := some 39) (v := ?_) (a' := ?_) #[true, false, true, false, false, true, false, true, false, false, false, false, false, false] rfl rfl (any_of HT_.out (by kernel_rfl)) (fun _ _ _ h => h) (Or.inl ⟨by rfl, ?_⟩) ?_ ?_
            rotate_left
            ·intro w'
             go_simp
             with_reducible rfl
            rotate_left
            ·simp only [Act.put, List.setIfInBounds_toArray, List.set_cons_zero, List.set_cons_succ, i64_w, i32_w]
             rfl
            refine take_ (i := 1) (N := some 33) (v := ?_) (a' := ?_) #[true, true, true, false, false, true, false, true, false, false, false, false, false, false] rfl rfl (take_ofW HT_.out HW_.out (by kernel_rfl)) (fun _ _ _ h => h) (Or.inl ⟨by rfl, ?_⟩) hHeld ?_ ?_
            rotate_left
            ·rintro w' ⟨s0, s1, s2, s3, s4, s5, s6, s7, s8, s9⟩
             go_simp
             with_reducible rfl
            rotate_left
            ·simp only [Act.put, List.setIfInBounds_toArray, List.set_cons_zero, List.set_cons_succ, i64_w, i32_w]
             rfl
            refine pure_ (i := 3) (N := some 35) (v := ?_) (a' := ?_) #[true, true, true, true, false, true, false, true, false, false, false, false, false, false] rfl rfl (any_of HT_.out (by kernel_rfl)) (fun _ _ _ h => h) (Or.inl ⟨by rfl, ?_⟩) ?_ ?_
            rotate_left
            ·intro w'
             go_simp
             with_reducible rfl
            rotate_left
            ·simp only [Act.put, List.setIfInBounds_toArray, List.set_cons_zero, List.set_cons_succ, i64_w, i32_w]
             rfl
            refine take_ (i := 4) (N := some 36) (v := ?_) (a' := ?_) #[true, true, true, true, true, true, false, true, false, false, false, false, false, false] rfl rfl (take_ofW HT_.out HW_.out (by kernel_rfl)) (fun _ _ _ h => h) (Or.inl ⟨by rfl, ?_⟩) hHeld ?_ ?_
            rotate_left
            ·rintro w' ⟨s0, s1, s2, s3, s4, s5, s6, s7, s8, s9⟩
             go_simp
             with_reducible rfl
            rotate_left
            ·simp only [Act.put, List.setIfInBounds_toArray, List.set_cons_zero, List.set_cons_succ, i64_w, i32_w]
             rfl
            refine take_ (i := 6) (N := some 38) (v := ?_) (a' := ?_) #[true, true, true, true, true, true, true, true, false, false, false, false, false, false] rfl rfl (take_ofW HT_.out HW_.out (by kernel_rfl)) (fun _ _ _ h => h) (Or.inl ⟨by rfl, ?_⟩) hHeld ?_ ?_
            rotate_left
            ·rintro w' ⟨s0, s1, s2, s3, s4, s5, s6, s7, s8, s9⟩
             go_simp
             with_reducible rfl
            rotate_left
            ·simp only [Act.put, List.setIfInBounds_toArray, List.set_cons_zero, List.set_cons_succ, i64_w, i32_w]
             rfl
            refine pure_ (i := 8) (N := some 40) (v := ?_) (a' := ?_) #[true, true, true, true, true, true, true, true, true, false, false, false, false, false] rfl rfl (any_of HT_.out (by kernel_rfl)) (fun _ _ _ h => h) (Or.inl ⟨by rfl, ?_⟩) ?_ ?_
            rotate_left
            ·intro w'
             go_simp
             with_reducible rfl
            rotate_left
            ·simp only [Act.put, List.setIfInBounds_toArray, List.set_cons_zero, List.set_cons_succ, i64_w, i32_w]
             rfl
            refine take_ (i := 9) (N := some 41) (v := ?_) (a' := ?_) #[true, true, true, true, true, true, true, true, true, true, false, false, false, false] rfl rfl (take_ofW HT_.out HW_.out (by kernel_rfl)) (fun _ _ _ h => h) (Or.inl ⟨by rfl, ?_⟩) hHeld ?_ ?_
            rotate_left
            ·rintro w' ⟨s0, s1, s2, s3, s4, s5, s6, s7, s8, s9⟩
             go_simp
             with_reducible rfl
            rotate_left
            ·simp only [Act.put, List.setIfInBounds_toArray, List.set_cons_zero, List.set_cons_succ, i64_w, i32_w]
             rfl
            refine join_ (σ := Nat × Nat) 2 #[true, true, true, true, true, true, true, true, true, true, true, true, false, false] (fun s_ => [(6, .pointer (some ⟨s_.1, 0, none⟩)), (7, .pointer (some ⟨s_.2, 0, none⟩))]) (fun s_ w' => (w'.cell? ⟨gb252, 0, none⟩ = some (.int .i64 a0_0) ∧ w'.cell? ⟨gb252, 1, none⟩ = some (.slice (some ad254) l0_1.length c0_1) ∧ w'.cell? ⟨gb252, 2, none⟩ = some (.string a0_2) ∧ w'.cell? ⟨gb253, 0, none⟩ = some (.int .i64 a1_0) ∧ w'.cell? ⟨gb253, 1, none⟩ = some (.slice (some ad255) l1_1.length c1_1) ∧ w'.cell? ⟨gb253, 2, none⟩ = some (.string a1_2) ∧ w'.cell? (ad254.add ((x5_1).toNat * 2)) = some (.string ((rd_T54 l0_1 x5_1).f0)) ∧ w'.cell? ⟨(ad254.add ((x5_1).toNat * 2)).block, (ad254.add ((x5_1).toNat * 2)).off + 1, none⟩ = some (.string ((rd_T54 l0_1 x5_1).f1)) ∧ w'.cell? (ad255.add ((x5_1).toNat * 2)) = some (.string ((rd_T54 l1_1 x5_1).f0)) ∧ w'.cell? ⟨(ad255.add ((x5_1).toNat * 2)).block, (ad255.add ((x5_1).toNat * 2)).off + 1, none⟩ = some (.string ((rd_T54 l1_1 x5_1).f1))) ∧ (w'.heap[gb252]? = some (.cells #[.int .i64 a0_0, .slice (some ad254) l0_1.length c0_1, .string a0_2] 26 (0, 0))) ∧ (w'.heap[gb253]? = some (.cells #[.int .i64 a1_0, .slice (some ad255) l1_1.length c1_1, .string a1_2] 26 (0, 0))) ∧ (w'.heap[s_.1]? = some (.cells #[.string (⟨#[]⟩ : ByteArray), .string (⟨#[]⟩ : ByteArray)] 54 (0, 0))) ∧ (w'.heap[s_.2]? = some (.cells #[.string (⟨#[]⟩ : ByteArray), .string (⟨#[]⟩ : ByteArray)] 54 (0, 0))) ∧ (w.heap.size ≤ s_.1) ∧ (w.heap.size ≤ s_.1) ∧ (gb252 ≠ s_.1) ∧ (s_.1 ≠ gb252) ∧ (gb253 ≠ s_.1) ∧ (s_.1 ≠ gb253) ∧ (s_.2 ≠ s_.1) ∧ (s_.1 ≠ s_.2) ∧ (w.heap.size ≤ s_.2) ∧ (w.heap.size ≤ s_.2) ∧ (gb252 ≠ s_.2) ∧ (s_.2 ≠ gb252) ∧ (gb253 ≠ s_.2) ∧ (s_.2 ≠ gb253) ∧ (Below w.heap.size w w')) ?_ ?_
            rotate_left
            ·intro hCont
             refine two_ (i := 10) (j := 11) (Ni := some 6) (Nj := some 7) #[true, true, true, true, true, true, true, true, true, true, true, false, false, false] #[true, true, true, true, true, true, true, true, true, true, false, true, false, false] rfl rfl rfl rfl (two_of HT_.out (by kernel_rfl)) (by decide) (by decide) (fun K hK => ?_) (fun K hK => ?_)
             ·skip
              refine box_step ?hg (N := 6) ?hd (cs := #[.string (⟨#[]⟩ : ByteArray), .string (⟨#[]⟩ : ByteArray)]) (t := 54) ?hr ?_; (case hd => rfl); (case hg => rfl); (case hr => first | (go_simp; done) | (go_simp; rfl))
              intro gb256 hg w38 hbox hb
              have n0_ := Aside0.mk (blk_below (g := gb252) (o := .cells #[.int .i64 a0_0, .slice (some ad254) l0_1.length c0_1, .string a0_2] 26 (0, 0)) (by (with_reducible repeat (first | refine blk_drewN ?_ _ | refine blk_drew ?_ | refine blk_alloc ?_ _)); exact BK252.out) hb)
              have n1_ := Aside0.mk (blk_below (g := gb253) (o := .cells #[.int .i64 a1_0, .slice (some ad255) l1_1.length c1_1, .string a1_2] 26 (0, 0)) (by (with_reducible repeat (first | refine blk_drewN ?_ _ | refine blk_drew ?_ | refine blk_alloc ?_ _)); exact BK253.out) hb)
              have n2_ := Aside0.mk (below_step (by repeat (first | (with_reducible first | exact HB.out | apply below_alloc | apply pw_below_drewN | apply below_drew1 | refine below_set ?_ GE252.out | refine below_set ?_ GE253.out) | exact HB.out)) hb)
              have n3_ := Aside0.mk (hbox)
              have n4_ := Aside0.mk ((by rw [hg]; exact (below_size (by repeat (first | (with_reducible first | exact HB.out | apply below_alloc | apply pw_below_drewN | apply below_drew1 | refine below_set ?_ GE252.out | refine below_set ?_ GE253.out) | exact HB.out))) : w.heap.size ≤ gb256))
              have n5_ := Aside0.mk ((by rw [hg]; exact (below_size (by repeat (first | (with_reducible first | exact HB.out | apply below_alloc | apply pw_below_drewN | apply below_drew1 | refine below_set ?_ GE252.out | refine below_set ?_ GE253.out) | exact HB.out))) : w.heap.size ≤ gb256))
              have n6_ := Aside0.mk ((by rw [hg]; exact Nat.ne_of_lt (blk_lt (g := gb252) (o := .cells #[.int .i64 a0_0, .slice (some ad254) l0_1.length c0_1, .string a0_2] 26 (0, 0)) (by (with_reducible repeat (first | refine blk_drewN ?_ _ | refine blk_drew ?_ | refine blk_alloc ?_ _)); exact BK252.out)) : gb252 ≠ gb256))
              have n7_ := Aside0.mk ((by rw [hg]; exact Nat.ne_of_gt (blk_lt (g := gb252) (o := .cells #[.int .i64 a0_0, .slice (some ad254) l0_1.length c0_1, .string a0_2] 26 (0, 0)) (by (with_reducible repeat (first | refine blk_drewN ?_ _ | refine blk_drew ?_ | refine blk_alloc ?_ _)); exact BK252.out)) : gb256 ≠ gb252))
              have n8_ := Aside0.mk ((by rw [hg]; exact Nat.ne_of_lt (blk_lt (g := gb253) (o := .cells #[.int .i64 a1_0, .slice (some ad255) l1_1.length c1_1, .string a1_2] 26 (0, 0)) (by (with_reducible repeat (first | refine blk_drewN ?_ _ | refine blk_drew ?_ | refine blk_alloc ?_ _)); exact BK253.out)) : gb253 ≠ gb256))
              have n9_ := Aside0.mk ((by rw [hg]; exact Nat.ne_of_gt (blk_lt (g := gb253) (o := .cells #[.int .i64 a1_0, .slice (some ad255) l1_1.length c1_1, .string a1_2] 26 (0, 0)) (by (with_reducible repeat (first | refine blk_drewN ?_ _ | refine blk_drew ?_ | refine blk_alloc ?_ _)); exact BK253.out)) : gb256 ≠ gb253))
              clear BK252
              clear BK253
              clear HB
              have BK252 := n0_
              have BK253 := n1_
              have HB := n2_
              have BK256 := n3_
              have GW256 := n4_
              have GE256 := n5_
              have NB252_256 := n6_
              have NB256_252 := n7_
              have NB253_256 := n8_
              have NB256_253 := n9_
              clear n0_ n1_ n2_ n3_ n4_ n5_ n6_ n7_ n8_ n9_
              clear hb hbox hg
              refine hK.out _ _ ⟨(blk_cell BK252.out 0).trans rfl, (blk_cell BK252.out 1).trans rfl, (blk_cell BK252.out 2).trans rfl, (blk_cell BK253.out 0).trans rfl, (blk_cell BK253.out 1).trans rfl, (blk_cell BK253.out 2).trans rfl, ((HB.out.cell (World.block_lt_of_cell? w _ hw254_0)).trans hw254_0), ((HB.out.cell (World.block_lt_of_cell? w _ hw254_1)).trans hw254_1), ((HB.out.cell (World.block_lt_of_cell? w _ hw255_0)).trans hw255_0), ((HB.out.cell (World.block_lt_of_cell? w _ hw255_1)).trans hw255_1)⟩ (fun hHeld => ?_)
              clear hK K
              refine norm_ (a' := ?_) ?_ ?_
              rotate_left
              ·show Act.put _ (some 6) _ = _
               simp only [Act.put, List.setIfInBounds_toArray, List.set_cons_zero, List.set_cons_succ, i64_w, i32_w]
               rfl
              refine one_ (i := 11) (N := some 7) #[true, true, true, true, true, true, true, true, true, true, true, true, false, false] rfl rfl (one_of HT_.out (by kernel_rfl)) (by decide) (fun K hK => ?_)
              refine box_step ?hg (N := 7) ?hd (cs := #[.string (⟨#[]⟩ : ByteArray), .string (⟨#[]⟩ : ByteArray)]) (t := 54) ?hr ?_; (case hd => rfl); (case hg => rfl); (case hr => first | (go_simp; done) | (go_simp; rfl))
              intro gb257 hg w39 hbox hb
              have n0_ := Aside0.mk (blk_below (g := gb252) (o := .cells #[.int .i64 a0_0, .slice (some ad254) l0_1.length c0_1, .string a0_2] 26 (0, 0)) (by (with_reducible repeat (first | refine blk_drewN ?_ _ | refine blk_drew ?_ | refine blk_alloc ?_ _)); exact BK252.out) hb)
              have n1_ := Aside0.mk (blk_below (g := gb253) (o := .cells #[.int .i64 a1_0, .slice (some ad255) l1_1.length c1_1, .string a1_2] 26 (0, 0)) (by (with_reducible repeat (first | refine blk_drewN ?_ _ | refine blk_drew ?_ | refine blk_alloc ?_ _)); exact BK253.out) hb)
              have n2_ := Aside0.mk (blk_below (g := gb256) (o := .cells #[.string (⟨#[]⟩ : ByteArray), .string (⟨#[]⟩ : ByteArray)] 54 (0, 0)) (by (with_reducible repeat (first | refine blk_drewN ?_ _ | refine blk_drew ?_ | refine blk_alloc ?_ _)); exact BK256.out) hb)
              have n3_ := Aside0.mk (below_step (by repeat (first | (with_reducible first | exact HB.out | apply below_alloc | apply pw_below_drewN | apply below_drew1 | refine below_set ?_ GE252.out | refine below_set ?_ GE253.out | refine below_set ?_ GE256.out) | exact HB.out)) hb)
              have n4_ := Aside0.mk (hbox)
              have n5_ := Aside0.mk ((by rw [hg]; exact (below_size (by repeat (first | (with_reducible first | exact HB.out | apply below_alloc | apply pw_below_drewN | apply below_drew1 | refine below_set ?_ GE252.out | refine below_set ?_ GE253.out | refine below_set ?_ GE256.out) | exact HB.out))) : w.heap.size ≤ gb257))
              have n6_ := Aside0.mk ((by rw [hg]; exact (below_size (by repeat (first | (with_reducible first | exact HB.out | apply below_alloc | apply pw_below_drewN | apply below_drew1 | refine below_set ?_ GE252.out | refine below_set ?_ GE253.out | refine below_set ?_ GE256.out) | exact HB.out))) : w.heap.size ≤ gb257))
              have n7_ := Aside0.mk ((by rw [hg]; exact Nat.ne_of_lt (blk_lt (g := gb252) (o := .cells #[.int .i64 a0_0, .slice (some ad254) l0_1.length c0_1, .string a0_2] 26 (0, 0)) (by (with_reducible repeat (first | refine blk_drewN ?_ _ | refine blk_drew ?_ | refine blk_alloc ?_ _)); exact BK252.out)) : gb252 ≠ gb257))
              have n8_ := Aside0.mk ((by rw [hg]; exact Nat.ne_of_gt (blk_lt (g := gb252) (o := .cells #[.int .i64 a0_0, .slice (some ad254) l0_1.length c0_1, .string a0_2] 26 (0, 0)) (by (with_reducible repeat (first | refine blk_drewN ?_ _ | refine blk_drew ?_ | refine blk_alloc ?_ _)); exact BK252.out)) : gb257 ≠ gb252))
              have n9_ := Aside0.mk ((by rw [hg]; exact Nat.ne_of_lt (blk_lt (g := gb253) (o := .cells #[.int .i64 a1_0, .slice (some ad255) l1_1.length c1_1, .string a1_2] 26 (0, 0)) (by (with_reducible repeat (first | refine blk_drewN ?_ _ | refine blk_drew ?_ | refine blk_alloc ?_ _)); exact BK253.out)) : gb253 ≠ gb257))
              have n10_ := Aside0.mk ((by rw [hg]; exact Nat.ne_of_gt (blk_lt (g := gb253) (o := .cells #[.int .i64 a1_0, .slice (some ad255) l1_1.length c1_1, .string a1_2] 26 (0, 0)) (by (with_reducible repeat (first | refine blk_drewN ?_ _ | refine blk_drew ?_ | refine blk_alloc ?_ _)); exact BK253.out)) : gb257 ≠ gb253))
              have n11_ := Aside0.mk ((by rw [hg]; exact Nat.ne_of_lt (blk_lt (g := gb256) (o := .cells #[.string (⟨#[]⟩ : ByteArray), .string (⟨#[]⟩ : ByteArray)] 54 (0, 0)) (by (with_reducible repeat (first | refine blk_drewN ?_ _ | refine blk_drew ?_ | refine blk_alloc ?_ _)); exact BK256.out)) : gb256 ≠ gb257))
              have n12_ := Aside0.mk ((by rw [hg]; exact Nat.ne_of_gt (blk_lt (g := gb256) (o := .cells #[.string (⟨#[]⟩ : ByteArray), .string (⟨#[]⟩ : ByteArray)] 54 (0, 0)) (by (with_reducible repeat (first | refine blk_drewN ?_ _ | refine blk_drew ?_ | refine blk_alloc ?_ _)); exact BK256.out)) : gb257 ≠ gb256))
              clear BK252
              clear BK253
              clear BK256
              clear HB
              have BK252 := n0_
              have BK253 := n1_
              have BK256 := n2_
              have HB := n3_
              have BK257 := n4_
              have GW257 := n5_
              have GE257 := n6_
              have NB252_257 := n7_
              have NB257_252 := n8_
              have NB253_257 := n9_
              have NB257_253 := n10_
              have NB256_257 := n11_
              have NB257_256 := n12_
              clear n0_ n1_ n2_ n3_ n4_ n5_ n6_ n7_ n8_ n9_ n10_ n11_ n12_
              clear hb hbox hg
              refine hK.out _ _ ⟨(blk_cell BK252.out 0).trans rfl, (blk_cell BK252.out 1).trans rfl, (blk_cell BK252.out 2).trans rfl, (blk_cell BK253.out 0).trans rfl, (blk_cell BK253.out 1).trans rfl, (blk_cell BK253.out 2).trans rfl, ((HB.out.cell (World.block_lt_of_cell? w _ hw254_0)).trans hw254_0), ((HB.out.cell (World.block_lt_of_cell? w _ hw254_1)).trans hw254_1), ((HB.out.cell (World.block_lt_of_cell? w _ hw255_0)).trans hw255_0), ((HB.out.cell (World.block_lt_of_cell? w _ hw255_1)).trans hw255_1)⟩ (fun hHeld => ?_)
              clear hK K
              refine norm_ (a' := ?_) ?_ ?_
              rotate_left
              ·show Act.put _ (some 7) _ = _
               simp only [Act.put, List.setIfInBounds_toArray, List.set_cons_zero, List.set_cons_succ, i64_w, i32_w]
               rfl
              exact norm_ (by simp only [putAll, Act.put, List.setIfInBounds_toArray, List.set_cons_zero, List.set_cons_succ]) (hCont (gb256, gb257) _ ⟨hHeld, (by (with_reducible repeat (first | refine blk_drewN ?_ _ | refine blk_drew ?_ | refine blk_alloc ?_ _)); exact BK252.out), (by (with_reducible repeat (first | refine blk_drewN ?_ _ | refine blk_drew ?_ | refine blk_alloc ?_ _)); exact BK253.out), (by (with_reducible repeat (first | refine blk_drewN ?_ _ | refine blk_drew ?_ | refine blk_alloc ?_ _)); exact BK256.out), (by (with_reducible repeat (first | refine blk_drewN ?_ _ | refine blk_drew ?_ | refine blk_alloc ?_ _)); exact BK257.out), GW256.out, GE256.out, NB252_256.out, NB256_252.out, NB253_256.out, NB256_253.out, NB257_256.out, NB256_257.out, GW257.out, GE257.out, NB252_257.out, NB257_252.out, NB253_257.out, NB257_253.out, (by repeat (first | (with_reducible first | exact HB.out | apply below_alloc | apply pw_below_drewN | apply below_drew1 | refine below_set ?_ GE252.out | refine below_set ?_ GE253.out | refine below_set ?_ GE256.out | refine below_set ?_ GE257.out) | exact HB.out))⟩)
             ·skip
              refine box_step ?hg (N := 7) ?hd (cs := #[.string (⟨#[]⟩ : ByteArray), .string (⟨#[]⟩ : ByteArray)]) (t := 54) ?hr ?_; (case hd => rfl); (case hg => rfl); (case hr => first | (go_simp; done) | (go_simp; rfl))
              intro gb257 hg w38 hbox hb
              have n0_ := Aside0.mk (blk_below (g := gb252) (o := .cells #[.int .i64 a0_0, .slice (some ad254) l0_1.length c0_1, .string a0_2] 26 (0, 0)) (by (with_reducible repeat (first | refine blk_drewN ?_ _ | refine blk_drew ?_ | refine blk_alloc ?_ _)); exact BK252.out) hb)
              have n1_ := Aside0.mk (blk_below (g := gb253) (o := .cells #[.int .i64 a1_0, .slice (some ad255) l1_1.length c1_1, .string a1_2] 26 (0, 0)) (by (with_reducible repeat (first | refine blk_drewN ?_ _ | refine blk_drew ?_ | refine blk_alloc ?_ _)); exact BK253.out) hb)
              have n2_ := Aside0.mk (below_step (by repeat (first | (with_reducible first | exact HB.out | apply below_alloc | apply pw_below_drewN | apply below_drew1 | refine below_set ?_ GE252.out | refine below_set ?_ GE253.out) | exact HB.out)) hb)
              have n3_ := Aside0.mk (hbox)
              have n4_ := Aside0.mk ((by rw [hg]; exact (below_size (by repeat (first | (with_reducible first | exact HB.out | apply below_alloc | apply pw_below_drewN | apply below_drew1 | refine below_set ?_ GE252.out | refine below_set ?_ GE253.out) | exact HB.out))) : w.heap.size ≤ gb257))
              have n5_ := Aside0.mk ((by rw [hg]; exact (below_size (by repeat (first | (with_reducible first | exact HB.out | apply below_alloc | apply pw_below_drewN | apply below_drew1 | refine below_set ?_ GE252.out | refine below_set ?_ GE253.out) | exact HB.out))) : w.heap.size ≤ gb257))
              have n6_ := Aside0.mk ((by rw [hg]; exact Nat.ne_of_lt (blk_lt (g := gb252) (o := .cells #[.int .i64 a0_0, .slice (some ad254) l0_1.length c0_1, .string a0_2] 26 (0, 0)) (by (with_reducible repeat (first | refine blk_drewN ?_ _ | refine blk_drew ?_ | refine blk_alloc ?_ _)); exact BK252.out)) : gb252 ≠ gb257))
              have n7_ := Aside0.mk ((by rw [hg]; exact Nat.ne_of_gt (blk_lt (g := gb252) (o := .cells #[.int .i64 a0_0, .slice (some ad254) l0_1.length c0_1, .string a0_2] 26 (0, 0)) (by (with_reducible repeat (first | refine blk_drewN ?_ _ | refine blk_drew ?_ | refine blk_alloc ?_ _)); exact BK252.out)) : gb257 ≠ gb252))
              have n8_ := Aside0.mk ((by rw [hg]; exact Nat.ne_of_lt (blk_lt (g := gb253) (o := .cells #[.int .i64 a1_0, .slice (some ad255) l1_1.length c1_1, .string a1_2] 26 (0, 0)) (by (with_reducible repeat (first | refine blk_drewN ?_ _ | refine blk_drew ?_ | refine blk_alloc ?_ _)); exact BK253.out)) : gb253 ≠ gb257))
              have n9_ := Aside0.mk ((by rw [hg]; exact Nat.ne_of_gt (blk_lt (g := gb253) (o := .cells #[.int .i64 a1_0, .slice (some ad255) l1_1.length c1_1, .string a1_2] 26 (0, 0)) (by (with_reducible repeat (first | refine blk_drewN ?_ _ | refine blk_drew ?_ | refine blk_alloc ?_ _)); exact BK253.out)) : gb257 ≠ gb253))
              clear BK252
              clear BK253
              clear HB
              have BK252 := n0_
              have BK253 := n1_
              have HB := n2_
              have BK257 := n3_
              have GW257 := n4_
              have GE257 := n5_
              have NB252_257 := n6_
              have NB257_252 := n7_
              have NB253_257 := n8_
              have NB257_253 := n9_
              clear n0_ n1_ n2_ n3_ n4_ n5_ n6_ n7_ n8_ n9_
              clear hb hbox hg
              refine hK.out _ _ ⟨(blk_cell BK252.out 0).trans rfl, (blk_cell BK252.out 1).trans rfl, (blk_cell BK252.out 2).trans rfl, (blk_cell BK253.out 0).trans rfl, (blk_cell BK253.out 1).trans rfl, (blk_cell BK253.out 2).trans rfl, ((HB.out.cell (World.block_lt_of_cell? w _ hw254_0)).trans hw254_0), ((HB.out.cell (World.block_lt_of_cell? w _ hw254_1)).trans hw254_1), ((HB.out.cell (World.block_lt_of_cell? w _ hw255_0)).trans hw255_0), ((HB.out.cell (World.block_lt_of_cell? w _ hw255_1)).trans hw255_1)⟩ (fun hHeld => ?_)
              clear hK K
              refine norm_ (a' := ?_) ?_ ?_
              rotate_left
              ·show Act.put _ (some 7) _ = _
               simp only [Act.put, List.setIfInBounds_toArray, List.set_cons_zero, List.set_cons_succ, i64_w, i32_w]
               rfl
              refine one_ (i := 10) (N := some 6) #[true, true, true, true, true, true, true, true, true, true, true, true, false, false] rfl rfl (one_of HT_.out (by kernel_rfl)) (by decide) (fun K hK => ?_)
              refine box_step ?hg (N := 6) ?hd (cs := #[.string (⟨#[]⟩ : ByteArray), .string (⟨#[]⟩ : ByteArray)]) (t := 54) ?hr ?_; (case hd => rfl); (case hg => rfl); (case hr => first | (go_simp; done) | (go_simp; rfl))
              intro gb256 hg w39 hbox hb
              have n0_ := Aside0.mk (blk_below (g := gb252) (o := .cells #[.int .i64 a0_0, .slice (some ad254) l0_1.length c0_1, .string a0_2] 26 (0, 0)) (by (with_reducible repeat (first | refine blk_drewN ?_ _ | refine blk_drew ?_ | refine blk_alloc ?_ _)); exact BK252.out) hb)
              have n1_ := Aside0.mk (blk_below (g := gb253) (o := .cells #[.int .i64 a1_0, .slice (some ad255) l1_1.length c1_1, .string a1_2] 26 (0, 0)) (by (with_reducible repeat (first | refine blk_drewN ?_ _ | refine blk_drew ?_ | refine blk_alloc ?_ _)); exact BK253.out) hb)
              have n2_ := Aside0.mk (blk_below (g := gb257) (o := .cells #[.string (⟨#[]⟩ : ByteArray), .string (⟨#[]⟩ : ByteArray)] 54 (0, 0)) (by (with_reducible repeat (first | refine blk_drewN ?_ _ | refine blk_drew ?_ | refine blk_alloc ?_ _)); exact BK257.out) hb)
              have n3_ := Aside0.mk (below_step (by repeat (first | (with_reducible first | exact HB.out | apply below_alloc | apply pw_below_drewN | apply below_drew1 | refine below_set ?_ GE252.out | refine below_set ?_ GE253.out | refine below_set ?_ GE257.out) | exact HB.out)) hb)
              have n4_ := Aside0.mk (hbox)
              have n5_ := Aside0.mk ((by rw [hg]; exact (below_size (by repeat (first | (with_reducible first | exact HB.out | apply below_alloc | apply pw_below_drewN | apply below_drew1 | refine below_set ?_ GE252.out | refine below_set ?_ GE253.out | refine below_set ?_ GE257.out) | exact HB.out))) : w.heap.size ≤ gb256))
              have n6_ := Aside0.mk ((by rw [hg]; exact (below_size (by repeat (first | (with_reducible first | exact HB.out | apply below_alloc | apply pw_below_drewN | apply below_drew1 | refine below_set ?_ GE252.out | refine below_set ?_ GE253.out | refine below_set ?_ GE257.out) | exact HB.out))) : w.heap.size ≤ gb256))
              have n7_ := Aside0.mk ((by rw [hg]; exact Nat.ne_of_lt (blk_lt (g := gb252) (o := .cells #[.int .i64 a0_0, .slice (some ad254) l0_1.length c0_1, .string a0_2] 26 (0, 0)) (by (with_reducible repeat (first | refine blk_drewN ?_ _ | refine blk_drew ?_ | refine blk_alloc ?_ _)); exact BK252.out)) : gb252 ≠ gb256))
              have n8_ := Aside0.mk ((by rw [hg]; exact Nat.ne_of_gt (blk_lt (g := gb252) (o := .cells #[.int .i64 a0_0, .slice (some ad254) l0_1.length c0_1, .string a0_2] 26 (0, 0)) (by (with_reducible repeat (first | refine blk_drewN ?_ _ | refine blk_drew ?_ | refine blk_alloc ?_ _)); exact BK252.out)) : gb256 ≠ gb252))
              have n9_ := Aside0.mk ((by rw [hg]; exact Nat.ne_of_lt (blk_lt (g := gb253) (o := .cells #[.int .i64 a1_0, .slice (some ad255) l1_1.length c1_1, .string a1_2] 26 (0, 0)) (by (with_reducible repeat (first | refine blk_drewN ?_ _ | refine blk_drew ?_ | refine blk_alloc ?_ _)); exact BK253.out)) : gb253 ≠ gb256))
              have n10_ := Aside0.mk ((by rw [hg]; exact Nat.ne_of_gt (blk_lt (g := gb253) (o := .cells #[.int .i64 a1_0, .slice (some ad255) l1_1.length c1_1, .string a1_2] 26 (0, 0)) (by (with_reducible repeat (first | refine blk_drewN ?_ _ | refine blk_drew ?_ | refine blk_alloc ?_ _)); exact BK253.out)) : gb256 ≠ gb253))
              have n11_ := Aside0.mk ((by rw [hg]; exact Nat.ne_of_lt (blk_lt (g := gb257) (o := .cells #[.string (⟨#[]⟩ : ByteArray), .string (⟨#[]⟩ : ByteArray)] 54 (0, 0)) (by (with_reducible repeat (first | refine blk_drewN ?_ _ | refine blk_drew ?_ | refine blk_alloc ?_ _)); exact BK257.out)) : gb257 ≠ gb256))
              have n12_ := Aside0.mk ((by rw [hg]; exact Nat.ne_of_gt (blk_lt (g := gb257) (o := .cells #[.string (⟨#[]⟩ : ByteArray), .string (⟨#[]⟩ : ByteArray)] 54 (0, 0)) (by (with_reducible repeat (first | refine blk_drewN ?_ _ | refine blk_drew ?_ | refine blk_alloc ?_ _)); exact BK257.out)) : gb256 ≠ gb257))
              clear BK252
              clear BK253
              clear BK257
              clear HB
              have BK252 := n0_
              have BK253 := n1_
              have BK257 := n2_
              have HB := n3_
              have BK256 := n4_
              have GW256 := n5_
              have GE256 := n6_
              have NB252_256 := n7_
              have NB256_252 := n8_
              have NB253_256 := n9_
              have NB256_253 := n10_
              have NB257_256 := n11_
              have NB256_257 := n12_
              clear n0_ n1_ n2_ n3_ n4_ n5_ n6_ n7_ n8_ n9_ n10_ n11_ n12_
              clear hb hbox hg
              refine hK.out _ _ ⟨(blk_cell BK252.out 0).trans rfl, (blk_cell BK252.out 1).trans rfl, (blk_cell BK252.out 2).trans rfl, (blk_cell BK253.out 0).trans rfl, (blk_cell BK253.out 1).trans rfl, (blk_cell BK253.out 2).trans rfl, ((HB.out.cell (World.block_lt_of_cell? w _ hw254_0)).trans hw254_0), ((HB.out.cell (World.block_lt_of_cell? w _ hw254_1)).trans hw254_1), ((HB.out.cell (World.block_lt_of_cell? w _ hw255_0)).trans hw255_0), ((HB.out.cell (World.block_lt_of_cell? w _ hw255_1)).trans hw255_1)⟩ (fun hHeld => ?_)
              clear hK K
              refine norm_ (a' := ?_) ?_ ?_
              rotate_left
              ·show Act.put _ (some 6) _ = _
               simp only [Act.put, List.setIfInBounds_toArray, List.set_cons_zero, List.set_cons_succ, i64_w, i32_w]
               rfl
              exact norm_ (by simp only [putAll, Act.put, List.setIfInBounds_toArray, List.set_cons_zero, List.set_cons_succ]) (hCont (gb256, gb257) _ ⟨hHeld, (by (with_reducible repeat (first | refine blk_drewN ?_ _ | refine blk_drew ?_ | refine blk_alloc ?_ _)); exact BK252.out), (by (with_reducible repeat (first | refine blk_drewN ?_ _ | refine blk_drew ?_ | refine blk_alloc ?_ _)); exact BK253.out), (by (with_reducible repeat (first | refine blk_drewN ?_ _ | refine blk_drew ?_ | refine blk_alloc ?_ _)); exact BK256.out), (by (with_reducible repeat (first | refine blk_drewN ?_ _ | refine blk_drew ?_ | refine blk_alloc ?_ _)); exact BK257.out), GW256.out, GE256.out, NB252_256.out, NB256_252.out, NB253_256.out, NB256_253.out, NB257_256.out, NB256_257.out, GW257.out, GE257.out, NB252_257.out, NB257_252.out, NB253_257.out, NB257_253.out, (by repeat (first | (with_reducible first | exact HB.out | apply below_alloc | apply pw_below_drewN | apply below_drew1 | refine below_set ?_ GE252.out | refine below_set ?_ GE253.out | refine below_set ?_ GE257.out | refine below_set ?_ GE256.out) | exact HB.out))⟩)
            rintro ⟨gb256, gb257⟩ w40 ⟨hS_, h0_, h1_, h2_, h3_, h4_, h5_, h6_, h7_, h8_, h9_, h10_, h11_, h12_, h13_, h14_, h15_, h16_, h17_, h18_⟩
            have n0_ : Aside0 (w40.heap[gb252]? = some (.cells #[.int .i64 a0_0, .slice (some ad254) l0_1.length c0_1, .string a0_2] 26 (0, 0))) := ⟨h0_⟩
            have n1_ : Aside0 (w40.heap[gb253]? = some (.cells #[.int .i64 a1_0, .slice (some ad255) l1_1.length c1_1, .string a1_2] 26 (0, 0))) := ⟨h1_⟩
            have n2_ : Aside0 (w40.heap[gb256]? = some (.cells #[.string (⟨#[]⟩ : ByteArray), .string (⟨#[]⟩ : ByteArray)] 54 (0, 0))) := ⟨h2_⟩
            have n3_ : Aside0 (w40.heap[gb257]? = some (.cells #[.string (⟨#[]⟩ : ByteArray), .string (⟨#[]⟩ : ByteArray)] 54 (0, 0))) := ⟨h3_⟩
            have n4_ : Aside0 (w.heap.size ≤ gb256) := ⟨h4_⟩
            have n5_ : Aside0 (w.heap.size ≤ gb256) := ⟨h5_⟩
            have n6_ : Aside0 (gb252 ≠ gb256) := ⟨h6_⟩
            have n7_ : Aside0 (gb256 ≠ gb252) := ⟨h7_⟩
            have n8_ : Aside0 (gb253 ≠ gb256) := ⟨h8_⟩
            have n9_ : Aside0 (gb256 ≠ gb253) := ⟨h9_⟩
            have n10_ : Aside0 (gb257 ≠ gb256) := ⟨h10_⟩
            have n11_ : Aside0 (gb256 ≠ gb257) := ⟨h11_⟩
            have n12_ : Aside0 (w.heap.size ≤ gb257) := ⟨h12_⟩
            have n13_ : Aside0 (w.heap.size ≤ gb257) := ⟨h13_⟩
            have n14_ : Aside0 (gb252 ≠ gb257) := ⟨h14_⟩
            have n15_ : Aside0 (gb257 ≠ gb252) := ⟨h15_⟩
            have n16_ : Aside0 (gb253 ≠ gb257) := ⟨h16_⟩
            have n17_ : Aside0 (gb257 ≠ gb253) := ⟨h17_⟩
            have n18_ : Aside0 (Below w.heap.size w w40) := ⟨h18_⟩
            clear BK252
            clear BK253
            clear HB
            clear h0_ h1_ h2_ h3_ h4_ h5_ h6_ h7_ h8_ h9_ h10_ h11_ h12_ h13_ h14_ h15_ h16_ h17_ h18_
            have BK252 := n0_
            have BK253 := n1_
            have BK256 := n2_
            have BK257 := n3_
            have GW256 := n4_
            have GE256 := n5_
            have NB252_256 := n6_
            have NB256_252 := n7_
            have NB253_256 := n8_
            have NB256_253 := n9_
            have NB257_256 := n10_
            have NB256_257 := n11_
            have GW257 := n12_
            have GE257 := n13_
            have NB252_257 := n14_
            have NB257_252 := n15_
            have NB253_257 := n16_
            have NB257_253 := n17_
            have HB := n18_
            clear n0_ n1_ n2_ n3_ n4_ n5_ n6_ n7_ n8_ n9_ n10_ n11_ n12_ n13_ n14_ n15_ n16_ n17_ n18_
            have hHeld : w40.cell? ⟨gb252, 0, none⟩ = some (.int .i64 a0_0) ∧ w40.cell? ⟨gb252, 1, none⟩ = some (.slice (some ad254) l0_1.length c0_1) ∧ w40.cell? ⟨gb252, 2, none⟩ = some (.string a0_2) ∧ w40.cell? ⟨gb253, 0, none⟩ = some (.int .i64 a1_0) ∧ w40.cell? ⟨gb253, 1, none⟩ = some (.slice (some ad255) l1_1.length c1_1) ∧ w40.cell? ⟨gb253, 2, none⟩ = some (.string a1_2) ∧ w40.cell? (ad254.add ((x5_1).toNat * 2)) = some (.string ((rd_T54 l0_1 x5_1).f0)) ∧ w40.cell? ⟨(ad254.add ((x5_1).toNat * 2)).block, (ad254.add ((x5_1).toNat * 2)).off + 1, none⟩ = some (.string ((rd_T54 l0_1 x5_1).f1)) ∧ w40.cell? (ad255.add ((x5_1).toNat * 2)) = some (.string ((rd_T54 l1_1 x5_1).f0)) ∧ w40.cell? ⟨(ad255.add ((x5_1).toNat * 2)).block, (ad255.add ((x5_1).toNat * 2)).off + 1, none⟩ = some (.string ((rd_T54 l1_1 x5_1).f1)) := hS_
            refine norm_ (a' := ?_) ?_ ?_
            rotate_left
            ·simp only [putAll, Act.put, List.setIfInBounds_toArray, List.set_cons_zero, List.set_cons_succ]
             rfl
            refine one_ (i := 12) (N := none) #[true, true, true, true, true, true, true, true, true, true, true, true, true, false] rfl rfl (one_of HT_.out (by kernel_rfl)) (by decide) (fun K hK => ?_)
            have hs41 : w40.cell? ⟨gb256, 0, none⟩ = some (.string (⟨#[]⟩ : ByteArray)) := (blk_cell BK256.out 0).trans rfl
            have hfs41 := blk_frozen BK256.out 0
            have hns41_0 := NB252_256.out
            have hns41_1 := NB253_256.out
            have hns41_3 := NB257_256.out
            have hms41_0 := NB256_252.out
            have hms41_1 := NB256_253.out
            have hms41_3 := NB256_257.out
            have hs42 : w40.cell? ⟨gb256, 1, none⟩ = some (.string (⟨#[]⟩ : ByteArray)) := (blk_cell BK256.out 1).trans rfl
            have hfs42 := blk_frozen BK256.out 1
            have hns42_0 := NB252_256.out
            have hns42_1 := NB253_256.out
            have hns42_3 := NB257_256.out
            have hms42_0 := NB256_252.out
            have hms42_1 := NB256_253.out
            have hms42_3 := NB256_257.out
            refine skip_ (w1 := ?_) (by rfl) rfl ?_ ?_
            rotate_left
            ·go_simp
             rfl
            refine hK.out _ _ ⟨((cell_far (p := ⟨gb256, _, none⟩) NB252_256.out _).trans (((cell_far (p := ⟨gb256, _, none⟩) NB252_256.out _).trans (hHeld.1)))), ((cell_far (p := ⟨gb256, _, none⟩) NB252_256.out _).trans (((cell_far (p := ⟨gb256, _, none⟩) NB252_256.out _).trans (hHeld.2.1)))), ((cell_far (p := ⟨gb256, _, none⟩) NB252_256.out _).trans (((cell_far (p := ⟨gb256, _, none⟩) NB252_256.out _).trans (hHeld.2.2.1)))), ((cell_far (p := ⟨gb256, _, none⟩) NB253_256.out _).trans (((cell_far (p := ⟨gb256, _, none⟩) NB253_256.out _).trans (hHeld.2.2.2.1)))), ((cell_far (p := ⟨gb256, _, none⟩) NB253_256.out _).trans (((cell_far (p := ⟨gb256, _, none⟩) NB253_256.out _).trans (hHeld.2.2.2.2.1)))), ((cell_far (p := ⟨gb256, _, none⟩) NB253_256.out _).trans (((cell_far (p := ⟨gb256, _, none⟩) NB253_256.out _).trans (hHeld.2.2.2.2.2.1)))), ((cell_far (p := ⟨gb256, _, none⟩) (by first | exact Nat.ne_of_lt (Nat.lt_of_lt_of_le (by have := World.block_lt_of_cell? _ _ hw254_0; first | rwa [add_block] at this | exact this) GW256.out) | (rw [add_block]; exact Nat.ne_of_lt (Nat.lt_of_lt_of_le (by have := World.block_lt_of_cell? _ _ hw254_0; first | rwa [add_block] at this | exact this) GW256.out)) | (show (Addr.add _ _).block ≠ _; rw [add_block]; exact Nat.ne_of_lt (Nat.lt_of_lt_of_le (by have := World.block_lt_of_cell? _ _ hw254_0; first | rwa [add_block] at this | exact this) GW256.out)) | (dsimp only; exact Nat.ne_of_lt (Nat.lt_of_lt_of_le (by have := World.block_lt_of_cell? _ _ hw254_0; first | rwa [add_block] at this | exact this) GW256.out))) _).trans (((cell_far (p := ⟨gb256, _, none⟩) (by first | exact Nat.ne_of_lt (Nat.lt_of_lt_of_le (by have := World.block_lt_of_cell? _ _ hw254_0; first | rwa [add_block] at this | exact this) GW256.out) | (rw [add_block]; exact Nat.ne_of_lt (Nat.lt_of_lt_of_le (by have := World.block_lt_of_cell? _ _ hw254_0; first | rwa [add_block] at this | exact this) GW256.out)) | (show (Addr.add _ _).block ≠ _; rw [add_block]; exact Nat.ne_of_lt (Nat.lt_of_lt_of_le (by have := World.block_lt_of_cell? _ _ hw254_0; first | rwa [add_block] at this | exact this) GW256.out)) | (dsimp only; exact Nat.ne_of_lt (Nat.lt_of_lt_of_le (by have := World.block_lt_of_cell? _ _ hw254_0; first | rwa [add_block] at this | exact this) GW256.out))) _).trans (hHeld.2.2.2.2.2.2.1)))), ((cell_far (p := ⟨gb256, _, none⟩) (by first | exact Nat.ne_of_lt (Nat.lt_of_lt_of_le (by have := World.block_lt_of_cell? _ _ hw254_1; first | rwa [add_block] at this | exact this) GW256.out) | (rw [add_block]; exact Nat.ne_of_lt (Nat.lt_of_lt_of_le (by have := World.block_lt_of_cell? _ _ hw254_1; first | rwa [add_block] at this | exact this) GW256.out)) | (show (Addr.add _ _).block ≠ _; rw [add_block]; exact Nat.ne_of_lt (Nat.lt_of_lt_of_le (by have := World.block_lt_of_cell? _ _ hw254_1; first | rwa [add_block] at this | exact this) GW256.out)) | (dsimp only; exact Nat.ne_of_lt (Nat.lt_of_lt_of_le (by have := World.block_lt_of_cell? _ _ hw254_1; first | rwa [add_block] at this | exact this) GW256.out))) _).trans (((cell_far (p := ⟨gb256, _, none⟩) (by first | exact Nat.ne_of_lt (Nat.lt_of_lt_of_le (by have := World.block_lt_of_cell? _ _ hw254_1; first | rwa [add_block] at this | exact this) GW256.out) | (rw [add_block]; exact Nat.ne_of_lt (Nat.lt_of_lt_of_le (by have := World.block_lt_of_cell? _ _ hw254_1; first | rwa [add_block] at this | exact this) GW256.out)) | (show (Addr.add _ _).block ≠ _; rw [add_block]; exact Nat.ne_of_lt (Nat.lt_of_lt_of_le (by have := World.block_lt_of_cell? _ _ hw254_1; first | rwa [add_block] at this | exact this) GW256.out)) | (dsimp only; exact Nat.ne_of_lt (Nat.lt_of_lt_of_le (by have := World.block_lt_of_cell? _ _ hw254_1; first | rwa [add_block] at this | exact this) GW256.out))) _).trans (hHeld.2.2.2.2.2.2.2.1)))), ((cell_far (p := ⟨gb256, _, none⟩) (by first | exact Nat.ne_of_lt (Nat.lt_of_lt_of_le (by have := World.block_lt_of_cell? _ _ hw255_0; first | rwa [add_block] at this | exact this) GW256.out) | (rw [add_block]; exact Nat.ne_of_lt (Nat.lt_of_lt_of_le (by have := World.block_lt_of_cell? _ _ hw255_0; first | rwa [add_block] at this | exact this) GW256.out)) | (show (Addr.add _ _).block ≠ _; rw [add_block]; exact Nat.ne_of_lt (Nat.lt_of_lt_of_le (by have := World.block_lt_of_cell? _ _ hw255_0; first | rwa [add_block] at this | exact this) GW256.out)) | (dsimp only; exact Nat.ne_of_lt (Nat.lt_of_lt_of_le (by have := World.block_lt_of_cell? _ _ hw255_0; first | rwa [add_block] at this | exact this) GW256.out))) _).trans (((cell_far (p := ⟨gb256, _, none⟩) (by first | exact Nat.ne_of_lt (Nat.lt_of_lt_of_le (by have := World.block_lt_of_cell? _ _ hw255_0; first | rwa [add_block] at this | exact this) GW256.out) | (rw [add_block]; exact Nat.ne_of_lt (Nat.lt_of_lt_of_le (by have := World.block_lt_of_cell? _ _ hw255_0; first | rwa [add_block] at this | exact this) GW256.out)) | (show (Addr.add _ _).block ≠ _; rw [add_block]; exact Nat.ne_of_lt (Nat.lt_of_lt_of_le (by have := World.block_lt_of_cell? _ _ hw255_0; first | rwa [add_block] at this | exact this) GW256.out)) | (dsimp only; exact Nat.ne_of_lt (Nat.lt_of_lt_of_le (by have := World.block_lt_of_cell? _ _ hw255_0; first | rwa [add_block] at this | exact this) GW256.out))) _).trans (hHeld.2.2.2.2.2.2.2.2.1)))), ((cell_far (p := ⟨gb256, _, none⟩) (by first | exact Nat.ne_of_lt (Nat.lt_of_lt_of_le (by have := World.block_lt_of_cell? _ _ hw255_1; first | rwa [add_block] at this | exact this) GW256.out) | (rw [add_block]; exact Nat.ne_of_lt (Nat.lt_of_lt_of_le (by have := World.block_lt_of_cell? _ _ hw255_1; first | rwa [add_block] at this | exact this) GW256.out)) | (show (Addr.add _ _).block ≠ _; rw [add_block]; exact Nat.ne_of_lt (Nat.lt_of_lt_of_le (by have := World.block_lt_of_cell? _ _ hw255_1; first | rwa [add_block] at this | exact this) GW256.out)) | (dsimp only; exact Nat.ne_of_lt (Nat.lt_of_lt_of_le (by have := World.block_lt_of_cell? _ _ hw255_1; first | rwa [add_block] at this | exact this) GW256.out))) _).trans (((cell_far (p := ⟨gb256, _, none⟩) (by first | exact Nat.ne_of_lt (Nat.lt_of_lt_of_le (by have := World.block_lt_of_cell? _ _ hw255_1; first | rwa [add_block] at this | exact this) GW256.out) | (rw [add_block]; exact Nat.ne_of_lt (Nat.lt_of_lt_of_le (by have := World.block_lt_of_cell? _ _ hw255_1; first | rwa [add_block] at this | exact this) GW256.out)) | (show (Addr.add _ _).block ≠ _; rw [add_block]; exact Nat.ne_of_lt (Nat.lt_of_lt_of_le (by have := World.block_lt_of_cell? _ _ hw255_1; first | rwa [add_block] at this | exact this) GW256.out)) | (dsimp only; exact Nat.ne_of_lt (Nat.lt_of_lt_of_le (by have := World.block_lt_of_cell? _ _ hw255_1; first | rwa [add_block] at this | exact this) GW256.out))) _).trans (hHeld.2.2.2.2.2.2.2.2.2))))⟩ (fun hHeld => ?_)
            clear hK K
            refine one_ (i := 13) (N := none) #[true, true, true, true, true, true, true, true, true, true, true, true, true, true] rfl rfl (one_of HT_.out (by kernel_rfl)) (by decide) (fun K hK => ?_)
            have hs43 : w40.cell? ⟨gb257, 0, none⟩ = some (.string (⟨#[]⟩ : ByteArray)) := (blk_cell BK257.out 0).trans rfl
            have hfs43 := blk_frozen BK257.out 0
            have hns43_0 := NB252_257.out
            have hns43_1 := NB253_257.out
            have hns43_2 := NB256_257.out
            have hms43_0 := NB257_252.out
            have hms43_1 := NB257_253.out
            have hms43_2 := NB257_256.out
            have hs44 : w40.cell? ⟨gb257, 1, none⟩ = some (.string (⟨#[]⟩ : ByteArray)) := (blk_cell BK257.out 1).trans rfl
            have hfs44 := blk_frozen BK257.out 1
            have hns44_0 := NB252_257.out
            have hns44_1 := NB253_257.out
            have hns44_2 := NB256_257.out
            have hms44_0 := NB257_252.out
            have hms44_1 := NB257_253.out
            have hms44_2 := NB257_256.out
            refine skip_ (w1 := ?_) (by rfl) rfl ?_ ?_
            rotate_left
            ·go_simp
             rfl
            refine hK.out _ _ ⟨((cell_far (p := ⟨gb257, _, none⟩) NB252_257.out _).trans (((cell_far (p := ⟨gb257, _, none⟩) NB252_257.out _).trans (hHeld.1)))), ((cell_far (p := ⟨gb257, _, none⟩) NB252_257.out _).trans (((cell_far (p := ⟨gb257, _, none⟩) NB252_257.out _).trans (hHeld.2.1)))), ((cell_far (p := ⟨gb257, _, none⟩) NB252_257.out _).trans (((cell_far (p := ⟨gb257, _, none⟩) NB252_257.out _).trans (hHeld.2.2.1)))), ((cell_far (p := ⟨gb257, _, none⟩) NB253_257.out _).trans (((cell_far (p := ⟨gb257, _, none⟩) NB253_257.out _).trans (hHeld.2.2.2.1)))), ((cell_far (p := ⟨gb257, _, none⟩) NB253_257.out _).trans (((cell_far (p := ⟨gb257, _, none⟩) NB253_257.out _).trans (hHeld.2.2.2.2.1)))), ((cell_far (p := ⟨gb257, _, none⟩) NB253_257.out _).trans (((cell_far (p := ⟨gb257, _, none⟩) NB253_257.out _).trans (hHeld.2.2.2.2.2.1)))), ((cell_far (p := ⟨gb257, _, none⟩) (by first | exact Nat.ne_of_lt (Nat.lt_of_lt_of_le (by have := World.block_lt_of_cell? _ _ hw254_0; first | rwa [add_block] at this | exact this) GW257.out) | (rw [add_block]; exact Nat.ne_of_lt (Nat.lt_of_lt_of_le (by have := World.block_lt_of_cell? _ _ hw254_0; first | rwa [add_block] at this | exact this) GW257.out)) | (show (Addr.add _ _).block ≠ _; rw [add_block]; exact Nat.ne_of_lt (Nat.lt_of_lt_of_le (by have := World.block_lt_of_cell? _ _ hw254_0; first | rwa [add_block] at this | exact this) GW257.out)) | (dsimp only; exact Nat.ne_of_lt (Nat.lt_of_lt_of_le (by have := World.block_lt_of_cell? _ _ hw254_0; first | rwa [add_block] at this | exact this) GW257.out))) _).trans (((cell_far (p := ⟨gb257, _, none⟩) (by first | exact Nat.ne_of_lt (Nat.lt_of_lt_of_le (by have := World.block_lt_of_cell? _ _ hw254_0; first | rwa [add_block] at this | exact this) GW257.out) | (rw [add_block]; exact Nat.ne_of_lt (Nat.lt_of_lt_of_le (by have := World.block_lt_of_cell? _ _ hw254_0; first | rwa [add_block] at this | exact this) GW257.out)) | (show (Addr.add _ _).block ≠ _; rw [add_block]; exact Nat.ne_of_lt (Nat.lt_of_lt_of_le (by have := World.block_lt_of_cell? _ _ hw254_0; first | rwa [add_block] at this | exact this) GW257.out)) | (dsimp only; exact Nat.ne_of_lt (Nat.lt_of_lt_of_le (by have := World.block_lt_of_cell? _ _ hw254_0; first | rwa [add_block] at this | exact this) GW257.out))) _).trans (hHeld.2.2.2.2.2.2.1)))), ((cell_far (p := ⟨gb257, _, none⟩) (by first | exact Nat.ne_of_lt (Nat.lt_of_lt_of_le (by have := World.block_lt_of_cell? _ _ hw254_1; first | rwa [add_block] at this | exact this) GW257.out) | (rw [add_block]; exact Nat.ne_of_lt (Nat.lt_of_lt_of_le (by have := World.block_lt_of_cell? _ _ hw254_1; first | rwa [add_block] at this | exact this) GW257.out)) | (show (Addr.add _ _).block ≠ _; rw [add_block]; exact Nat.ne_of_lt (Nat.lt_of_lt_of_le (by have := World.block_lt_of_cell? _ _ hw254_1; first | rwa [add_block] at this | exact this) GW257.out)) | (dsimp only; exact Nat.ne_of_lt (Nat.lt_of_lt_of_le (by have := World.block_lt_of_cell? _ _ hw254_1; first | rwa [add_block] at this | exact this) GW257.out))) _).trans (((cell_far (p := ⟨gb257, _, none⟩) (by first | exact Nat.ne_of_lt (Nat.lt_of_lt_of_le (by have := World.block_lt_of_cell? _ _ hw254_1; first | rwa [add_block] at this | exact this) GW257.out) | (rw [add_block]; exact Nat.ne_of_lt (Nat.lt_of_lt_of_le (by have := World.block_lt_of_cell? _ _ hw254_1; first | rwa [add_block] at this | exact this) GW257.out)) | (show (Addr.add _ _).block ≠ _; rw [add_block]; exact Nat.ne_of_lt (Nat.lt_of_lt_of_le (by have := World.block_lt_of_cell? _ _ hw254_1; first | rwa [add_block] at this | exact this) GW257.out)) | (dsimp only; exact Nat.ne_of_lt (Nat.lt_of_lt_of_le (by have := World.block_lt_of_cell? _ _ hw254_1; first | rwa [add_block] at this | exact this) GW257.out))) _).trans (hHeld.2.2.2.2.2.2.2.1)))), ((cell_far (p := ⟨gb257, _, none⟩) (by first | exact Nat.ne_of_lt (Nat.lt_of_lt_of_le (by have := World.block_lt_of_cell? _ _ hw255_0; first | rwa [add_block] at this | exact this) GW257.out) | (rw [add_block]; exact Nat.ne_of_lt (Nat.lt_of_lt_of_le (by have := World.block_lt_of_cell? _ _ hw255_0; first | rwa [add_block] at this | exact this) GW257.out)) | (show (Addr.add _ _).block ≠ _; rw [add_block]; exact Nat.ne_of_lt (Nat.lt_of_lt_of_le (by have := World.block_lt_of_cell? _ _ hw255_0; first | rwa [add_block] at this | exact this) GW257.out)) | (dsimp only; exact Nat.ne_of_lt (Nat.lt_of_lt_of_le (by have := World.block_lt_of_cell? _ _ hw255_0; first | rwa [add_block] at this | exact this) GW257.out))) _).trans (((cell_far (p := ⟨gb257, _, none⟩) (by first | exact Nat.ne_of_lt (Nat.lt_of_lt_of_le (by have := World.block_lt_of_cell? _ _ hw255_0; first | rwa [add_block] at this | exact this) GW257.out) | (rw [add_block]; exact Nat.ne_of_lt (Nat.lt_of_lt_of_le (by have := World.block_lt_of_cell? _ _ hw255_0; first | rwa [add_block] at this | exact this) GW257.out)) | (show (Addr.add _ _).block ≠ _; rw [add_block]; exact Nat.ne_of_lt (Nat.lt_of_lt_of_le (by have := World.block_lt_of_cell? _ _ hw255_0; first | rwa [add_block] at this | exact this) GW257.out)) | (dsimp only; exact Nat.ne_of_lt (Nat.lt_of_lt_of_le (by have := World.block_lt_of_cell? _ _ hw255_0; first | rwa [add_block] at this | exact this) GW257.out))) _).trans (hHeld.2.2.2.2.2.2.2.2.1)))), ((cell_far (p := ⟨gb257, _, none⟩) (by first | exact Nat.ne_of_lt (Nat.lt_of_lt_of_le (by have := World.block_lt_of_cell? _ _ hw255_1; first | rwa [add_block] at this | exact this) GW257.out) | (rw [add_block]; exact Nat.ne_of_lt (Nat.lt_of_lt_of_le (by have := World.block_lt_of_cell? _ _ hw255_1; first | rwa [add_block] at this | exact this) GW257.out)) | (show (Addr.add _ _).block ≠ _; rw [add_block]; exact Nat.ne_of_lt (Nat.lt_of_lt_of_le (by have := World.block_lt_of_cell? _ _ hw255_1; first | rwa [add_block] at this | exact this) GW257.out)) | (dsimp only; exact Nat.ne_of_lt (Nat.lt_of_lt_of_le (by have := World.block_lt_of_cell? _ _ hw255_1; first | rwa [add_block] at this | exact this) GW257.out))) _).trans (((cell_far (p := ⟨gb257, _, none⟩) (by first | exact Nat.ne_of_lt (Nat.lt_of_lt_of_le (by have := World.block_lt_of_cell? _ _ hw255_1; first | rwa [add_block] at this | exact this) GW257.out) | (rw [add_block]; exact Nat.ne_of_lt (Nat.lt_of_lt_of_le (by have := World.block_lt_of_cell? _ _ hw255_1; first | rwa [add_block] at this | exact this) GW257.out)) | (show (Addr.add _ _).block ≠ _; rw [add_block]; exact Nat.ne_of_lt (Nat.lt_of_lt_of_le (by have := World.block_lt_of_cell? _ _ hw255_1; first | rwa [add_block] at this | exact this) GW257.out)) | (dsimp only; exact Nat.ne_of_lt (Nat.lt_of_lt_of_le (by have := World.block_lt_of_cell? _ _ hw255_1; first | rwa [add_block] at this | exact this) GW257.out))) _).trans (hHeld.2.2.2.2.2.2.2.2.2))))⟩ (fun hHeld => ?_)
            clear hK K
            refine done_ (done_of HT_.out (by kernel_rfl)) ?_
            have hnb45 := NB256_252.out
            have hnc45 := NB252_256.out
            have hnb46 := NB256_253.out
            have hnc46 := NB253_256.out
            have hnb47 := NB256_257.out
            have hnc47 := NB257_256.out
            have hcz48_0 : w40.cell? ⟨gb256, 0, none⟩ = some (.string (⟨#[]⟩ : ByteArray)) := (blk_cell BK256.out 0).trans rfl
            have hcz48_1 : w40.cell? ⟨gb256, 1, none⟩ = some (.string (⟨#[]⟩ : ByteArray)) := (blk_cell BK256.out 1).trans rfl
            have hfz48_0 := blk_frozen BK256.out 0
            have hfz48_1 := blk_frozen BK256.out 1
            have hnb49 := NB257_252.out
            have hnc49 := NB252_257.out
            have hnb50 := NB257_253.out
            have hnc50 := NB253_257.out
            have hcz51_0 : w40.cell? ⟨gb257, 0, none⟩ = some (.string (⟨#[]⟩ : ByteArray)) := (blk_cell BK257.out 0).trans rfl
            have hcz51_1 : w40.cell? ⟨gb257, 1, none⟩ = some (.string (⟨#[]⟩ : ByteArray)) := (blk_cell BK257.out 1).trans rfl
            have hfz51_0 := blk_frozen BK257.out 0
            have hfz51_1 := blk_frozen BK257.out 1
            try go_wp2
            go_ret
            exact ⟨by first | rfl | (simp [errW_none, errW_some] <;> rfl) | (simp [*, errW_none, errW_some] <;> rfl), by repeat (first | (with_reducible first | exact HB.out | apply below_alloc | apply pw_below_drewN | apply below_drew1 | refine below_set ?_ GE252.out | refine below_set ?_ GE253.out | refine below_set ?_ GE256.out | refine below_set ?_ GE257.out) | exact HB.out)⟩
          ·rw [if_neg c20] at H
           have c20b0 : (((rd_T54 l0_1 x5_1).f0).toList == ((rd_T54 l1_1 x5_1).f0).toList) = false := beq_eq_false_iff_ne.mpr c20
           have c20b1 : (((rd_T54 l0_1 x5_1).f0).toList != ((rd_T54 l1_1 x5_1).f0).toList) = true := bne_iff_ne.mpr c20
           obtain rfl := Option.some.inj H
           try go_wp2
           have n0_ := Aside0.mk (blk_drew BK252.out)
           have n1_ := Aside0.mk (blk_drew BK253.out)
           have n2_ := Aside0.mk (below_drew1 HB.out)
           clear BK252
           clear BK253
           clear HB
           have BK252 := n0_
           have BK253 := n1_
           have HB := n2_
           clear n0_ n1_ n2_
           have p254 : 0 ≤ (x5_1 : Int) := of_decide_eq_true (by first | (with_reducible assumption) | assumption)
           have q254 : x5_1 < (l0_1.length : Int) := of_decide_eq_true (by first | (with_reducible assumption) | assumption)
           obtain ⟨ad254, e254, hx254_0, hx254_1⟩ := at_T54 HR0_1.out x5_1 p254 q254
           have hw254_1 := hx254_1
           have hw254_0 := hx254_0
           cases e254
           replace hx254_0 := (HB.out.cell (World.block_lt_of_cell? w _ hx254_0)).trans hx254_0
           replace hx254_1 := (HB.out.cell (World.block_lt_of_cell? w _ hx254_1)).trans hx254_1
           replace p254 := eq_true p254
           replace q254 := eq_true q254
           have p255 : 0 ≤ (x5_1 : Int) := of_decide_eq_true (by first | (with_reducible assumption) | assumption)
           have q255 : x5_1 < (l1_1.length : Int) := of_decide_eq_true (by first | (with_reducible assumption) | assumption)
           obtain ⟨ad255, e255, hx255_0, hx255_1⟩ := at_T54 HR1_1.out x5_1 p255 q255
           have hw255_1 := hx255_1
           have hw255_0 := hx255_0
           cases e255
           replace hx255_0 := (HB.out.cell (World.block_lt_of_cell? w _ hx255_0)).trans hx255_0
           replace hx255_1 := (HB.out.cell (World.block_lt_of_cell? w _ hx255_1)).trans hx255_1
           replace p255 := eq_true p255
           replace q255 := eq_true q255
           refine start_ (n := 14) (S := fun w' => w'.cell? ⟨gb252, 0, none⟩ = some (.int .i64 a0_0) ∧ w'.cell? ⟨gb252, 1, none⟩ = some (.slice (some ad254) l0_1.length c0_1) ∧ w'.cell? ⟨gb252, 2, none⟩ = some (.string a0_2) ∧ w'.cell? ⟨gb253, 0, none⟩ = some (.int .i64 a1_0) ∧ w'.cell? ⟨gb253, 1, none⟩ = some (.slice (some ad255) l1_1.length c1_1) ∧ w'.cell? ⟨gb253, 2, none⟩ = some (.string a1_2) ∧ w'.cell? (ad254.add ((x5_1).toNat * 2)) = some (.string ((rd_T54 l0_1 x5_1).f0)) ∧ w'.cell? ⟨(ad254.add ((x5_1).toNat * 2)).block, (ad254.add ((x5_1).toNat * 2)).off + 1, none⟩ = some (.string ((rd_T54 l0_1 x5_1).f1)) ∧ w'.cell? (ad255.add ((x5_1).toNat * 2)) = some (.string ((rd_T54 l1_1 x5_1).f0)) ∧ w'.cell? ⟨(ad255.add ((x5_1).toNat * 2)).block, (ad255.add ((x5_1).toNat * 2)).off + 1, none⟩ = some (.string ((rd_T54 l1_1 x5_1).f1))) (ds := []) #[false, false, false, false, false, false, false, false, false, false, false, false, false, false] (by kernel_rfl) rfl rfl ⟨(blk_cell BK252.out 0).trans rfl, (blk_cell BK252.out 1).trans rfl, (blk_cell BK252.out 2).trans rfl, (blk_cell BK253.out 0).trans rfl, (blk_cell BK253.out 1).trans rfl, (blk_cell BK253.out 2).trans rfl, ((HB.out.cell (World.block_lt_of_cell? w _ hw254_0)).trans hw254_0), ((HB.out.cell (World.block_lt_of_cell? w _ hw254_1)).trans hw254_1), ((HB.out.cell (World.block_lt_of_cell? w _ hw255_0)).trans hw255_0), ((HB.out.cell (World.block_lt_of_cell? w _ hw255_1)).trans hw255_1)⟩ (fun hHeld => ?_); refine with_tabW magpieref04_Before.tab6 magpieref04_Before.bits6 (fun HT_ HW_ => ?_)
           generalize wc.drew = w52 at BK252 BK253 HB hx254_0 hx254_1 hx255_0 hx255_1 hHeld ⊢
           refine pure_ (i := 0) (N := some 32) (v := ?_) (a' := ?_) #[true, false, false, false, false, false, false, false, false, false, false, false, false, false] rfl rfl (any_of HT_.out (by kernel_rfl)) (fun _ _ _ h => h) (Or.inl ⟨by rfl, ?_⟩) ?_ ?_
           rotate_left
           ·intro w'
            go_simp
            with_reducible rfl
           rotate_left
           ·simp only [Act.put, List.setIfInBounds_toArray, List.set_cons_zero, List.set_cons_succ, i64_w, i32_w]
            rfl
           refine pure_ (i := 2) (N := some 34) (v := ?_) (a' := ?_) #[true, false, true, false, false, false, false, false, false, false, false, false, false, false] rfl rfl (any_of HT_.out (by kernel_rfl)) (fun _ _ _ h => h) (Or.inl ⟨by rfl, ?_⟩) ?_ ?_
           rotate_left
           ·intro w'
            go_simp
            with_reducible rfl
           rotate_left
           ·simp only [Act.put, List.setIfInBounds_toArray, List.set_cons_zero, List.set_cons_succ, i64_w, i32_w]
            rfl
           refine pure_ (i := 5) (N := some 37) (v := ?_) (a' := ?_) #[true, false, true, false, false, true, false, false, false, false, false, false, false, false] rfl rfl (any_of HT_.out (by kernel_rfl)) (fun _ _ _ h => h) (Or.inl ⟨by rfl, ?_⟩) ?_ ?_
           rotate_left
           ·intro w'
            go_simp
            with_reducible rfl
           rotate_left
           ·simp only [Act.put, List.setIfInBounds_toArray, List.set_cons_zero, List.set_cons_succ, i64_w, i32_w]
            rfl
           refine pure_ (i := 7) (N := some 39) (v := ?_) (a' := ?_) #[true, false, true, false, false, true, false, true, false, false, false, false, false, false] rfl rfl (any_of HT_.out (by kernel_rfl)) (fun _ _ _ h => h) (Or.inl ⟨by rfl, ?_⟩) ?_ ?_
           rotate_left
           ·intro w'
            go_simp
            with_reducible rfl
           rotate_left
           ·simp only [Act.put, List.setIfInBounds_toArray, List.set_cons_zero, List.set_cons_succ, i64_w, i32_w]
            rfl
           refine take_ (i := 1) (N := some 33) (v := ?_) (a' := ?_) #[true, true, true, false, false, true, false, true, false, false, false, false, false, false] rfl rfl (take_ofW HT_.out HW_.out (by kernel_rfl)) (fun _ _ _ h => h) (Or.inl ⟨by rfl, ?_⟩) hHeld ?_ ?_
           rotate_left
           ·rintro w' ⟨s0, s1, s2, s3, s4, s5, s6, s7, s8, s9⟩
            go_simp
            with_reducible rfl
           rotate_left
           ·simp only [Act.put, List.setIfInBounds_toArray, List.set_cons_zero, List.set_cons_succ, i64_w, i32_w]
            rfl
           refine pure_ (i := 3) (N := some 35) (v := ?_) (a' := ?_) #[true, true, true, true, false, true, false, true, false, false, false, false, false, false] rfl rfl (any_of HT_.out (by kernel_rfl)) (fun _ _ _ h => h) (Or.inl ⟨by rfl, ?_⟩) ?_ ?_
           rotate_left
           ·intro w'
            go_simp
            with_reducible rfl
           rotate_left
           ·simp only [Act.put, List.setIfInBounds_toArray, List.set_cons_zero, List.set_cons_succ, i64_w, i32_w]
            rfl
           refine take_ (i := 4) (N := some 36) (v := ?_) (a' := ?_) #[true, true, true, true, true, true, false, true, false, false, false, false, false, false] rfl rfl (take_ofW HT_.out HW_.out (by kernel_rfl)) (fun _ _ _ h => h) (Or.inl ⟨by rfl, ?_⟩) hHeld ?_ ?_
           rotate_left
           ·rintro w' ⟨s0, s1, s2, s3, s4, s5, s6, s7, s8, s9⟩
            go_simp
            with_reducible rfl
           rotate_left
           ·simp only [Act.put, List.setIfInBounds_toArray, List.set_cons_zero, List.set_cons_succ, i64_w, i32_w]
            rfl
           refine take_ (i := 6) (N := some 38) (v := ?_) (a' := ?_) #[true, true, true, true, true, true, true, true, false, false, false, false, false, false] rfl rfl (take_ofW HT_.out HW_.out (by kernel_rfl)) (fun _ _ _ h => h) (Or.inl ⟨by rfl, ?_⟩) hHeld ?_ ?_
           rotate_left
           ·rintro w' ⟨s0, s1, s2, s3, s4, s5, s6, s7, s8, s9⟩
            go_simp
            with_reducible rfl
           rotate_left
           ·simp only [Act.put, List.setIfInBounds_toArray, List.set_cons_zero, List.set_cons_succ, i64_w, i32_w]
            rfl
           refine pure_ (i := 8) (N := some 40) (v := ?_) (a' := ?_) #[true, true, true, true, true, true, true, true, true, false, false, false, false, false] rfl rfl (any_of HT_.out (by kernel_rfl)) (fun _ _ _ h => h) (Or.inl ⟨by rfl, ?_⟩) ?_ ?_
           rotate_left
           ·intro w'
            go_simp
            with_reducible rfl
           rotate_left
           ·simp only [Act.put, List.setIfInBounds_toArray, List.set_cons_zero, List.set_cons_succ, i64_w, i32_w]
            rfl
           refine take_ (i := 9) (N := some 41) (v := ?_) (a' := ?_) #[true, true, true, true, true, true, true, true, true, true, false, false, false, false] rfl rfl (take_ofW HT_.out HW_.out (by kernel_rfl)) (fun _ _ _ h => h) (Or.inl ⟨by rfl, ?_⟩) hHeld ?_ ?_
           rotate_left
           ·rintro w' ⟨s0, s1, s2, s3, s4, s5, s6, s7, s8, s9⟩
            go_simp
            with_reducible rfl
           rotate_left
           ·simp only [Act.put, List.setIfInBounds_toArray, List.set_cons_zero, List.set_cons_succ, i64_w, i32_w]
            rfl
           refine join_ (σ := Nat × Nat) 2 #[true, true, true, true, true, true, true, true, true, true, true, true, false, false] (fun s_ => [(6, .pointer (some ⟨s_.1, 0, none⟩)), (7, .pointer (some ⟨s_.2, 0, none⟩))]) (fun s_ w' => (w'.cell? ⟨gb252, 0, none⟩ = some (.int .i64 a0_0) ∧ w'.cell? ⟨gb252, 1, none⟩ = some (.slice (some ad254) l0_1.length c0_1) ∧ w'.cell? ⟨gb252, 2, none⟩ = some (.string a0_2) ∧ w'.cell? ⟨gb253, 0, none⟩ = some (.int .i64 a1_0) ∧ w'.cell? ⟨gb253, 1, none⟩ = some (.slice (some ad255) l1_1.length c1_1) ∧ w'.cell? ⟨gb253, 2, none⟩ = some (.string a1_2) ∧ w'.cell? (ad254.add ((x5_1).toNat * 2)) = some (.string ((rd_T54 l0_1 x5_1).f0)) ∧ w'.cell? ⟨(ad254.add ((x5_1).toNat * 2)).block, (ad254.add ((x5_1).toNat * 2)).off + 1, none⟩ = some (.string ((rd_T54 l0_1 x5_1).f1)) ∧ w'.cell? (ad255.add ((x5_1).toNat * 2)) = some (.string ((rd_T54 l1_1 x5_1).f0)) ∧ w'.cell? ⟨(ad255.add ((x5_1).toNat * 2)).block, (ad255.add ((x5_1).toNat * 2)).off + 1, none⟩ = some (.string ((rd_T54 l1_1 x5_1).f1))) ∧ (w'.heap[gb252]? = some (.cells #[.int .i64 a0_0, .slice (some ad254) l0_1.length c0_1, .string a0_2] 26 (0, 0))) ∧ (w'.heap[gb253]? = some (.cells #[.int .i64 a1_0, .slice (some ad255) l1_1.length c1_1, .string a1_2] 26 (0, 0))) ∧ (w'.heap[s_.1]? = some (.cells #[.string (⟨#[]⟩ : ByteArray), .string (⟨#[]⟩ : ByteArray)] 54 (0, 0))) ∧ (w'.heap[s_.2]? = some (.cells #[.string (⟨#[]⟩ : ByteArray), .string (⟨#[]⟩ : ByteArray)] 54 (0, 0))) ∧ (w.heap.size ≤ s_.1) ∧ (w.heap.size ≤ s_.1) ∧ (gb252 ≠ s_.1) ∧ (s_.1 ≠ gb252) ∧ (gb253 ≠ s_.1) ∧ (s_.1 ≠ gb253) ∧ (s_.2 ≠ s_.1) ∧ (s_.1 ≠ s_.2) ∧ (w.heap.size ≤ s_.2) ∧ (w.heap.size ≤ s_.2) ∧ (gb252 ≠ s_.2) ∧ (s_.2 ≠ gb252) ∧ (gb253 ≠ s_.2) ∧ (s_.2 ≠ gb253) ∧ (Below w.heap.size w w')) ?_ ?_
           rotate_left
           ·intro hCont
            refine two_ (i := 10) (j := 11) (Ni := some 6) (Nj := some 7) #[true, true, true, true, true, true, true, true, true, true, true, false, false, false] #[true, true, true, true, true, true, true, true, true, true, false, true, false, false] rfl rfl rfl rfl (two_of HT_.out (by kernel_rfl)) (by decide) (by decide) (fun K hK => ?_) (fun K hK => ?_)
            ·skip
             refine box_step ?hg (N := 6) ?hd (cs := #[.string (⟨#[]⟩ : ByteArray), .string (⟨#[]⟩ : ByteArray)]) (t := 54) ?hr ?_; (case hd => rfl); (case hg => rfl); (case hr => first | (go_simp; done) | (go_simp; rfl))
             intro gb256 hg w53 hbox hb
             have n0_ := Aside0.mk (blk_below (g := gb252) (o := .cells #[.int .i64 a0_0, .slice (some ad254) l0_1.length c0_1, .string a0_2] 26 (0, 0)) (by (with_reducible repeat (first | refine blk_drewN ?_ _ | refine blk_drew ?_ | refine blk_alloc ?_ _)); exact BK252.out) hb)
             have n1_ := Aside0.mk (blk_below (g := gb253) (o := .cells #[.int .i64 a1_0, .slice (some ad255) l1_1.length c1_1, .string a1_2] 26 (0, 0)) (by (with_reducible repeat (first | refine blk_drewN ?_ _ | refine blk_drew ?_ | refine blk_alloc ?_ _)); exact BK253.out) hb)
             have n2_ := Aside0.mk (below_step (by repeat (first | (with_reducible first | exact HB.out | apply below_alloc | apply pw_below_drewN | apply below_drew1 | refine below_set ?_ GE252.out | refine below_set ?_ GE253.out) | exact HB.out)) hb)
             have n3_ := Aside0.mk (hbox)
             have n4_ := Aside0.mk ((by rw [hg]; exact (below_size (by repeat (first | (with_reducible first | exact HB.out | apply below_alloc | apply pw_below_drewN | apply below_drew1 | refine below_set ?_ GE252.out | refine below_set ?_ GE253.out) | exact HB.out))) : w.heap.size ≤ gb256))
             have n5_ := Aside0.mk ((by rw [hg]; exact (below_size (by repeat (first | (with_reducible first | exact HB.out | apply below_alloc | apply pw_below_drewN | apply below_drew1 | refine below_set ?_ GE252.out | refine below_set ?_ GE253.out) | exact HB.out))) : w.heap.size ≤ gb256))
             have n6_ := Aside0.mk ((by rw [hg]; exact Nat.ne_of_lt (blk_lt (g := gb252) (o := .cells #[.int .i64 a0_0, .slice (some ad254) l0_1.length c0_1, .string a0_2] 26 (0, 0)) (by (with_reducible repeat (first | refine blk_drewN ?_ _ | refine blk_drew ?_ | refine blk_alloc ?_ _)); exact BK252.out)) : gb252 ≠ gb256))
             have n7_ := Aside0.mk ((by rw [hg]; exact Nat.ne_of_gt (blk_lt (g := gb252) (o := .cells #[.int .i64 a0_0, .slice (some ad254) l0_1.length c0_1, .string a0_2] 26 (0, 0)) (by (with_reducible repeat (first | refine blk_drewN ?_ _ | refine blk_drew ?_ | refine blk_alloc ?_ _)); exact BK252.out)) : gb256 ≠ gb252))
             have n8_ := Aside0.mk ((by rw [hg]; exact Nat.ne_of_lt (blk_lt (g := gb253) (o := .cells #[.int .i64 a1_0, .slice (some ad255) l1_1.length c1_1, .string a1_2] 26 (0, 0)) (by (with_reducible repeat (first | refine blk_drewN ?_ _ | refine blk_drew ?_ | refine blk_alloc ?_ _)); exact BK253.out)) : gb253 ≠ gb256))
             have n9_ := Aside0.mk ((by rw [hg]; exact Nat.ne_of_gt (blk_lt (g := gb253) (o := .cells #[.int .i64 a1_0, .slice (some ad255) l1_1.length c1_1, .string a1_2] 26 (0, 0)) (by (with_reducible repeat (first | refine blk_drewN ?_ _ | refine blk_drew ?_ | refine blk_alloc ?_ _)); exact BK253.out)) : gb256 ≠ gb253))
             clear BK252
             clear BK253
             clear HB
             have BK252 := n0_
             have BK253 := n1_
             have HB := n2_
             have BK256 := n3_
             have GW256 := n4_
             have GE256 := n5_
             have NB252_256 := n6_
             have NB256_252 := n7_
             have NB253_256 := n8_
             have NB256_253 := n9_
             clear n0_ n1_ n2_ n3_ n4_ n5_ n6_ n7_ n8_ n9_
             clear hb hbox hg
             refine hK.out _ _ ⟨(blk_cell BK252.out 0).trans rfl, (blk_cell BK252.out 1).trans rfl, (blk_cell BK252.out 2).trans rfl, (blk_cell BK253.out 0).trans rfl, (blk_cell BK253.out 1).trans rfl, (blk_cell BK253.out 2).trans rfl, ((HB.out.cell (World.block_lt_of_cell? w _ hw254_0)).trans hw254_0), ((HB.out.cell (World.block_lt_of_cell? w _ hw254_1)).trans hw254_1), ((HB.out.cell (World.block_lt_of_cell? w _ hw255_0)).trans hw255_0), ((HB.out.cell (World.block_lt_of_cell? w _ hw255_1)).trans hw255_1)⟩ (fun hHeld => ?_)
             clear hK K
             refine norm_ (a' := ?_) ?_ ?_
             rotate_left
             ·show Act.put _ (some 6) _ = _
              simp only [Act.put, List.setIfInBounds_toArray, List.set_cons_zero, List.set_cons_succ, i64_w, i32_w]
              rfl
             refine one_ (i := 11) (N := some 7) #[true, true, true, true, true, true, true, true, true, true, true, true, false, false] rfl rfl (one_of HT_.out (by kernel_rfl)) (by decide) (fun K hK => ?_)
             refine box_step ?hg (N := 7) ?hd (cs := #[.string (⟨#[]⟩ : ByteArray), .string (⟨#[]⟩ : ByteArray)]) (t := 54) ?hr ?_; (case hd => rfl); (case hg => rfl); (case hr => first | (go_simp; done) | (go_simp; rfl))
             intro gb257 hg w54 hbox hb
             have n0_ := Aside0.mk (blk_below (g := gb252) (o := .cells #[.int .i64 a0_0, .slice (some ad254) l0_1.length c0_1, .string a0_2] 26 (0, 0)) (by (with_reducible repeat (first | refine blk_drewN ?_ _ | refine blk_drew ?_ | refine blk_alloc ?_ _)); exact BK252.out) hb)
             have n1_ := Aside0.mk (blk_below (g := gb253) (o := .cells #[.int .i64 a1_0, .slice (some ad255) l1_1.length c1_1, .string a1_2] 26 (0, 0)) (by (with_reducible repeat (first | refine blk_drewN ?_ _ | refine blk_drew ?_ | refine blk_alloc ?_ _)); exact BK253.out) hb)
             have n2_ := Aside0.mk (blk_below (g := gb256) (o := .cells #[.string (⟨#[]⟩ : ByteArray), .string (⟨#[]⟩ : ByteArray)] 54 (0, 0)) (by (with_reducible repeat (first | refine blk_drewN ?_ _ | refine blk_drew ?_ | refine blk_alloc ?_ _)); exact BK256.out) hb)
             have n3_ := Aside0.mk (below_step (by repeat (first | (with_reducible first | exact HB.out | apply below_alloc | apply pw_below_drewN | apply below_drew1 | refine below_set ?_ GE252.out | refine below_set ?_ GE253.out | refine below_set ?_ GE256.out) | exact HB.out)) hb)
             have n4_ := Aside0.mk (hbox)
             have n5_ := Aside0.mk ((by rw [hg]; exact (below_size (by repeat (first | (with_reducible first | exact HB.out | apply below_alloc | apply pw_below_drewN | apply below_drew1 | refine below_set ?_ GE252.out | refine below_set ?_ GE253.out | refine below_set ?_ GE256.out) | exact HB.out))) : w.heap.size ≤ gb257))
             have n6_ := Aside0.mk ((by rw [hg]; exact (below_size (by repeat (first | (with_reducible first | exact HB.out | apply below_alloc | apply pw_below_drewN | apply below_drew1 | refine below_set ?_ GE252.out | refine below_set ?_ GE253.out | refine below_set ?_ GE256.out) | exact HB.out))) : w.heap.size ≤ gb257))
             have n7_ := Aside0.mk ((by rw [hg]; exact Nat.ne_of_lt (blk_lt (g := gb252) (o := .cells #[.int .i64 a0_0, .slice (some ad254) l0_1.length c0_1, .string a0_2] 26 (0, 0)) (by (with_reducible repeat (first | refine blk_drewN ?_ _ | refine blk_drew ?_ | refine blk_alloc ?_ _)); exact BK252.out)) : gb252 ≠ gb257))
             have n8_ := Aside0.mk ((by rw [hg]; exact Nat.ne_of_gt (blk_lt (g := gb252) (o := .cells #[.int .i64 a0_0, .slice (some ad254) l0_1.length c0_1, .string a0_2] 26 (0, 0)) (by (with_reducible repeat (first | refine blk_drewN ?_ _ | refine blk_drew ?_ | refine blk_alloc ?_ _)); exact BK252.out)) : gb257 ≠ gb252))
             have n9_ := Aside0.mk ((by rw [hg]; exact Nat.ne_of_lt (blk_lt (g := gb253) (o := .cells #[.int .i64 a1_0, .slice (some ad255) l1_1.length c1_1, .string a1_2] 26 (0, 0)) (by (with_reducible repeat (first | refine blk_drewN ?_ _ | refine blk_drew ?_ | refine blk_alloc ?_ _)); exact BK253.out)) : gb253 ≠ gb257))
             have n10_ := Aside0.mk ((by rw [hg]; exact Nat.ne_of_gt (blk_lt (g := gb253) (o := .cells #[.int .i64 a1_0, .slice (some ad255) l1_1.length c1_1, .string a1_2] 26 (0, 0)) (by (with_reducible repeat (first | refine blk_drewN ?_ _ | refine blk_drew ?_ | refine blk_alloc ?_ _)); exact BK253.out)) : gb257 ≠ gb253))
             have n11_ := Aside0.mk ((by rw [hg]; exact Nat.ne_of_lt (blk_lt (g := gb256) (o := .cells #[.string (⟨#[]⟩ : ByteArray), .string (⟨#[]⟩ : ByteArray)] 54 (0, 0)) (by (with_reducible repeat (first | refine blk_drewN ?_ _ | refine blk_drew ?_ | refine blk_alloc ?_ _)); exact BK256.out)) : gb256 ≠ gb257))
             have n12_ := Aside0.mk ((by rw [hg]; exact Nat.ne_of_gt (blk_lt (g := gb256) (o := .cells #[.string (⟨#[]⟩ : ByteArray), .string (⟨#[]⟩ : ByteArray)] 54 (0, 0)) (by (with_reducible repeat (first | refine blk_drewN ?_ _ | refine blk_drew ?_ | refine blk_alloc ?_ _)); exact BK256.out)) : gb257 ≠ gb256))
             clear BK252
             clear BK253
             clear BK256
             clear HB
             have BK252 := n0_
             have BK253 := n1_
             have BK256 := n2_
             have HB := n3_
             have BK257 := n4_
             have GW257 := n5_
             have GE257 := n6_
             have NB252_257 := n7_
             have NB257_252 := n8_
             have NB253_257 := n9_
             have NB257_253 := n10_
             have NB256_257 := n11_
             have NB257_256 := n12_
             clear n0_ n1_ n2_ n3_ n4_ n5_ n6_ n7_ n8_ n9_ n10_ n11_ n12_
             clear hb hbox hg
             refine hK.out _ _ ⟨(blk_cell BK252.out 0).trans rfl, (blk_cell BK252.out 1).trans rfl, (blk_cell BK252.out 2).trans rfl, (blk_cell BK253.out 0).trans rfl, (blk_cell BK253.out 1).trans rfl, (blk_cell BK253.out 2).trans rfl, ((HB.out.cell (World.block_lt_of_cell? w _ hw254_0)).trans hw254_0), ((HB.out.cell (World.block_lt_of_cell? w _ hw254_1)).trans hw254_1), ((HB.out.cell (World.block_lt_of_cell? w _ hw255_0)).trans hw255_0), ((HB.out.cell (World.block_lt_of_cell? w _ hw255_1)).trans hw255_1)⟩ (fun hHeld => ?_)
             clear hK K
             refine norm_ (a' := ?_) ?_ ?_
             rotate_left
             ·show Act.put _ (some 7) _ = _
              simp only [Act.put, List.setIfInBounds_toArray, List.set_cons_zero, List.set_cons_succ, i64_w, i32_w]
              rfl
             exact norm_ (by simp only [putAll, Act.put, List.setIfInBounds_toArray, List.set_cons_zero, List.set_cons_succ]) (hCont (gb256, gb257) _ ⟨hHeld, (by (with_reducible repeat (first | refine blk_drewN ?_ _ | refine blk_drew ?_ | refine blk_alloc ?_ _)); exact BK252.out), (by (with_reducible repeat (first | refine blk_drewN ?_ _ | refine blk_drew ?_ | refine blk_alloc ?_ _)); exact BK253.out), (by (with_reducible repeat (first | refine blk_drewN ?_ _ | refine blk_drew ?_ | refine blk_alloc ?_ _)); exact BK256.out), (by (with_reducible repeat (first | refine blk_drewN ?_ _ | refine blk_drew ?_ | refine blk_alloc ?_ _)); exact BK257.out), GW256.out, GE256.out, NB252_256.out, NB256_252.out, NB253_256.out, NB256_253.out, NB257_256.out, NB256_257.out, GW257.out, GE257.out, NB252_257.out, NB257_252.out, NB253_257.out, NB257_253.out, (by repeat (first | (with_reducible first | exact HB.out | apply below_alloc | apply pw_below_drewN | apply below_drew1 | refine below_set ?_ GE252.out | refine below_set ?_ GE253.out | refine below_set ?_ GE256.out | refine below_set ?_ GE257.out) | exact HB.out))⟩)
            ·skip
             refine box_step ?hg (N := 7) ?hd (cs := #[.string (⟨#[]⟩ : ByteArray), .string (⟨#[]⟩ : ByteArray)]) (t := 54) ?hr ?_; (case hd => rfl); (case hg => rfl); (case hr => first | (go_simp; done) | (go_simp; rfl))
             intro gb257 hg w53 hbox hb
             have n0_ := Aside0.mk (blk_below (g := gb252) (o := .cells #[.int .i64 a0_0, .slice (some ad254) l0_1.length c0_1, .string a0_2] 26 (0, 0)) (by (with_reducible repeat (first | refine blk_drewN ?_ _ | refine blk_drew ?_ | refine blk_alloc ?_ _)); exact BK252.out) hb)
             have n1_ := Aside0.mk (blk_below (g := gb253) (o := .cells #[.int .i64 a1_0, .slice (some ad255) l1_1.length c1_1, .string a1_2] 26 (0, 0)) (by (with_reducible repeat (first | refine blk_drewN ?_ _ | refine blk_drew ?_ | refine blk_alloc ?_ _)); exact BK253.out) hb)
             have n2_ := Aside0.mk (below_step (by repeat (first | (with_reducible first | exact HB.out | apply below_alloc | apply pw_below_drewN | apply below_drew1 | refine below_set ?_ GE252.out | refine below_set ?_ GE253.out) | exact HB.out)) hb)
             have n3_ := Aside0.mk (hbox)
             have n4_ := Aside0.mk ((by rw [hg]; exact (below_size (by repeat (first | (with_reducible first | exact HB.out | apply below_alloc | apply pw_below_drewN | apply below_drew1 | refine below_set ?_ GE252.out | refine below_set ?_ GE253.out) | exact HB.out))) : w.heap.size ≤ gb257))
             have n5_ := Aside0.mk ((by rw [hg]; exact (below_size (by repeat (first | (with_reducible first | exact HB.out | apply below_alloc | apply pw_below_drewN | apply below_drew1 | refine below_set ?_ GE252.out | refine below_set ?_ GE253.out) | exact HB.out))) : w.heap.size ≤ gb257))
             have n6_ := Aside0.mk ((by rw [hg]; exact Nat.ne_of_lt (blk_lt (g := gb252) (o := .cells #[.int .i64 a0_0, .slice (some ad254) l0_1.length c0_1, .string a0_2] 26 (0, 0)) (by (with_reducible repeat (first | refine blk_drewN ?_ _ | refine blk_drew ?_ | refine blk_alloc ?_ _)); exact BK252.out)) : gb252 ≠ gb257))
             have n7_ := Aside0.mk ((by rw [hg]; exact Nat.ne_of_gt (blk_lt (g := gb252) (o := .cells #[.int .i64 a0_0, .slice (some ad254) l0_1.length c0_1, .string a0_2] 26 (0, 0)) (by (with_reducible repeat (first | refine blk_drewN ?_ _ | refine blk_drew ?_ | refine blk_alloc ?_ _)); exact BK252.out)) : gb257 ≠ gb252))
             have n8_ := Aside0.mk ((by rw [hg]; exact Nat.ne_of_lt (blk_lt (g := gb253) (o := .cells #[.int .i64 a1_0, .slice (some ad255) l1_1.length c1_1, .string a1_2] 26 (0, 0)) (by (with_reducible repeat (first | refine blk_drewN ?_ _ | refine blk_drew ?_ | refine blk_alloc ?_ _)); exact BK253.out)) : gb253 ≠ gb257))
             have n9_ := Aside0.mk ((by rw [hg]; exact Nat.ne_of_gt (blk_lt (g := gb253) (o := .cells #[.int .i64 a1_0, .slice (some ad255) l1_1.length c1_1, .string a1_2] 26 (0, 0)) (by (with_reducible repeat (first | refine blk_drewN ?_ _ | refine blk_drew ?_ | refine blk_alloc ?_ _)); exact BK253.out)) : gb257 ≠ gb253))
             clear BK252
             clear BK253
             clear HB
             have BK252 := n0_
             have BK253 := n1_
             have HB := n2_
             have BK257 := n3_
             have GW257 := n4_
             have GE257 := n5_
             have NB252_257 := n6_
             have NB257_252 := n7_
             have NB253_257 := n8_
             have NB257_253 := n9_
             clear n0_ n1_ n2_ n3_ n4_ n5_ n6_ n7_ n8_ n9_
             clear hb hbox hg
             refine hK.out _ _ ⟨(blk_cell BK252.out 0).trans rfl, (blk_cell BK252.out 1).trans rfl, (blk_cell BK252.out 2).trans rfl, (blk_cell BK253.out 0).trans rfl, (blk_cell BK253.out 1).trans rfl, (blk_cell BK253.out 2).trans rfl, ((HB.out.cell (World.block_lt_of_cell? w _ hw254_0)).trans hw254_0), ((HB.out.cell (World.block_lt_of_cell? w _ hw254_1)).trans hw254_1), ((HB.out.cell (World.block_lt_of_cell? w _ hw255_0)).trans hw255_0), ((HB.out.cell (World.block_lt_of_cell? w _ hw255_1)).trans hw255_1)⟩ (fun hHeld => ?_)
             clear hK K
             refine norm_ (a' := ?_) ?_ ?_
             rotate_left
             ·show Act.put _ (some 7) _ = _
              simp only [Act.put, List.setIfInBounds_toArray, List.set_cons_zero, List.set_cons_succ, i64_w, i32_w]
              rfl
             refine one_ (i := 10) (N := some 6) #[true, true, true, true, true, true, true, true, true, true, true, true, false, false] rfl rfl (one_of HT_.out (by kernel_rfl)) (by decide) (fun K hK => ?_)
             refine box_step ?hg (N := 6) ?hd (cs := #[.string (⟨#[]⟩ : ByteArray), .string (⟨#[]⟩ : ByteArray)]) (t := 54) ?hr ?_; (case hd => rfl); (case hg => rfl); (case hr => first | (go_simp; done) | (go_simp; rfl))
             intro gb256 hg w54 hbox hb
             have n0_ := Aside0.mk (blk_below (g := gb252) (o := .cells #[.int .i64 a0_0, .slice (some ad254) l0_1.length c0_1, .string a0_2] 26 (0, 0)) (by (with_reducible repeat (first | refine blk_drewN ?_ _ | refine blk_drew ?_ | refine blk_alloc ?_ _)); exact BK252.out) hb)
             have n1_ := Aside0.mk (blk_below (g := gb253) (o := .cells #[.int .i64 a1_0, .slice (some ad255) l1_1.length c1_1, .string a1_2] 26 (0, 0)) (by (with_reducible repeat (first | refine blk_drewN ?_ _ | refine blk_drew ?_ | refine blk_alloc ?_ _)); exact BK253.out) hb)
             have n2_ := Aside0.mk (blk_below (g := gb257) (o := .cells #[.string (⟨#[]⟩ : ByteArray), .string (⟨#[]⟩ : ByteArray)] 54 (0, 0)) (by (with_reducible repeat (first | refine blk_drewN ?_ _ | refine blk_drew ?_ | refine blk_alloc ?_ _)); exact BK257.out) hb)
             have n3_ := Aside0.mk (below_step (by repeat (first | (with_reducible first | exact HB.out | apply below_alloc | apply pw_below_drewN | apply below_drew1 | refine below_set ?_ GE252.out | refine below_set ?_ GE253.out | refine below_set ?_ GE257.out) | exact HB.out)) hb)
             have n4_ := Aside0.mk (hbox)
             have n5_ := Aside0.mk ((by rw [hg]; exact (below_size (by repeat (first | (with_reducible first | exact HB.out | apply below_alloc | apply pw_below_drewN | apply below_drew1 | refine below_set ?_ GE252.out | refine below_set ?_ GE253.out | refine below_set ?_ GE257.out) | exact HB.out))) : w.heap.size ≤ gb256))
             have n6_ := Aside0.mk ((by rw [hg]; exact (below_size (by repeat (first | (with_reducible first | exact HB.out | apply below_alloc | apply pw_below_drewN | apply below_drew1 | refine below_set ?_ GE252.out | refine below_set ?_ GE253.out | refine below_set ?_ GE257.out) | exact HB.out))) : w.heap.size ≤ gb256))
             have n7_ := Aside0.mk ((by rw [hg]; exact Nat.ne_of_lt (blk_lt (g := gb252) (o := .cells #[.int .i64 a0_0, .slice (some ad254) l0_1.length c0_1, .string a0_2] 26 (0, 0)) (by (with_reducible repeat (first | refine blk_drewN ?_ _ | refine blk_drew ?_ | refine blk_alloc ?_ _)); exact BK252.out)) : gb252 ≠ gb256))
             have n8_ := Aside0.mk ((by rw [hg]; exact Nat.ne_of_gt (blk_lt (g := gb252) (o := .cells #[.int .i64 a0_0, .slice (some ad254) l0_1.length c0_1, .string a0_2] 26 (0, 0)) (by (with_reducible repeat (first | refine blk_drewN ?_ _ | refine blk_drew ?_ | refine blk_alloc ?_ _)); exact BK252.out)) : gb256 ≠ gb252))
             have n9_ := Aside0.mk ((by rw [hg]; exact Nat.ne_of_lt (blk_lt (g := gb253) (o := .cells #[.int .i64 a1_0, .slice (some ad255) l1_1.length c1_1, .string a1_2] 26 (0, 0)) (by (with_reducible repeat (first | refine blk_drewN ?_ _ | refine blk_drew ?_ | refine blk_alloc ?_ _)); exact BK253.out)) : gb253 ≠ gb256))
             have n10_ := Aside0.mk ((by rw [hg]; exact Nat.ne_of_gt (blk_lt (g := gb253) (o := .cells #[.int .i64 a1_0, .slice (some ad255) l1_1.length c1_1, .string a1_2] 26 (0, 0)) (by (with_reducible repeat (first | refine blk_drewN ?_ _ | refine blk_drew ?_ | refine blk_alloc ?_ _)); exact BK253.out)) : gb256 ≠ gb253))
             have n11_ := Aside0.mk ((by rw [hg]; exact Nat.ne_of_lt (blk_lt (g := gb257) (o := .cells #[.string (⟨#[]⟩ : ByteArray), .string (⟨#[]⟩ : ByteArray)] 54 (0, 0)) (by (with_reducible repeat (first | refine blk_drewN ?_ _ | refine blk_drew ?_ | refine blk_alloc ?_ _)); exact BK257.out)) : gb257 ≠ gb256))
             have n12_ := Aside0.mk ((by rw [hg]; exact Nat.ne_of_gt (blk_lt (g := gb257) (o := .cells #[.string (⟨#[]⟩ : ByteArray), .string (⟨#[]⟩ : ByteArray)] 54 (0, 0)) (by (with_reducible repeat (first | refine blk_drewN ?_ _ | refine blk_drew ?_ | refine blk_alloc ?_ _)); exact BK257.out)) : gb256 ≠ gb257))
             clear BK252
             clear BK253
             clear BK257
             clear HB
             have BK252 := n0_
             have BK253 := n1_
             have BK257 := n2_
             have HB := n3_
             have BK256 := n4_
             have GW256 := n5_
             have GE256 := n6_
             have NB252_256 := n7_
             have NB256_252 := n8_
             have NB253_256 := n9_
             have NB256_253 := n10_
             have NB257_256 := n11_
             have NB256_257 := n12_
             clear n0_ n1_ n2_ n3_ n4_ n5_ n6_ n7_ n8_ n9_ n10_ n11_ n12_
             clear hb hbox hg
             refine hK.out _ _ ⟨(blk_cell BK252.out 0).trans rfl, (blk_cell BK252.out 1).trans rfl, (blk_cell BK252.out 2).trans rfl, (blk_cell BK253.out 0).trans rfl, (blk_cell BK253.out 1).trans rfl, (blk_cell BK253.out 2).trans rfl, ((HB.out.cell (World.block_lt_of_cell? w _ hw254_0)).trans hw254_0), ((HB.out.cell (World.block_lt_of_cell? w _ hw254_1)).trans hw254_1), ((HB.out.cell (World.block_lt_of_cell? w _ hw255_0)).trans hw255_0), ((HB.out.cell (World.block_lt_of_cell? w _ hw255_1)).trans hw255_1)⟩ (fun hHeld => ?_)
             clear hK K
             refine norm_ (a' := ?_) ?_ ?_
             rotate_left
             ·show Act.put _ (some 6) _ = _
              simp only [Act.put, List.setIfInBounds_toArray, List.set_cons_zero, List.set_cons_succ, i64_w, i32_w]
              rfl
             exact norm_ (by simp only [putAll, Act.put, List.setIfInBounds_toArray, List.set_cons_zero, List.set_cons_succ]) (hCont (gb256, gb257) _ ⟨hHeld, (by (with_reducible repeat (first | refine blk_drewN ?_ _ | refine blk_drew ?_ | refine blk_alloc ?_ _)); exact BK252.out), (by (with_reducible repeat (first | refine blk_drewN ?_ _ | refine blk_drew ?_ | refine blk_alloc ?_ _)); exact BK253.out), (by (with_reducible repeat (first | refine blk_drewN ?_ _ | refine blk_drew ?_ | refine blk_alloc ?_ _)); exact BK256.out), (by (with_reducible repeat (first | refine blk_drewN ?_ _ | refine blk_drew ?_ | refine blk_alloc ?_ _)); exact BK257.out), GW256.out, GE256.out, NB252_256.out, NB256_252.out, NB253_256.out, NB256_253.out, NB257_256.out, NB256_257.out, GW257.out, GE257.out, NB252_257.out, NB257_252.out, NB253_257.out, NB257_253.out, (by repeat (first | (with_reducible first | exact HB.out | apply below_alloc | apply pw_below_drewN | apply below_drew1 | refine below_set ?_ GE252.out | refine below_set ?_ GE253.out | refine below_set ?_ GE257.out | refine below_set ?_ GE256.out) | exact HB.out))⟩)
           rintro ⟨gb256, gb257⟩ w55 ⟨hS_, h0_, h1_, h2_, h3_, h4_, h5_, h6_, h7_, h8_, h9_, h10_, h11_, h12_, h13_, h14_, h15_, h16_, h17_, h18_⟩
           have n0_ : Aside0 (w55.heap[gb252]? = some (.cells #[.int .i64 a0_0, .slice (some ad254) l0_1.length c0_1, .string a0_2] 26 (0, 0))) := ⟨h0_⟩
           have n1_ : Aside0 (w55.heap[gb253]? = some (.cells #[.int .i64 a1_0, .slice (some ad255) l1_1.length c1_1, .string a1_2] 26 (0, 0))) := ⟨h1_⟩
           have n2_ : Aside0 (w55.heap[gb256]? = some (.cells #[.string (⟨#[]⟩ : ByteArray), .string (⟨#[]⟩ : ByteArray)] 54 (0, 0))) := ⟨h2_⟩
           have n3_ : Aside0 (w55.heap[gb257]? = some (.cells #[.string (⟨#[]⟩ : ByteArray), .string (⟨#[]⟩ : ByteArray)] 54 (0, 0))) := ⟨h3_⟩
           have n4_ : Aside0 (w.heap.size ≤ gb256) := ⟨h4_⟩
           have n5_ : Aside0 (w.heap.size ≤ gb256) := ⟨h5_⟩
           have n6_ : Aside0 (gb252 ≠ gb256) := ⟨h6_⟩
           have n7_ : Aside0 (gb256 ≠ gb252) := ⟨h7_⟩
           have n8_ : Aside0 (gb253 ≠ gb256) := ⟨h8_⟩
           have n9_ : Aside0 (gb256 ≠ gb253) := ⟨h9_⟩
           have n10_ : Aside0 (gb257 ≠ gb256) := ⟨h10_⟩
           have n11_ : Aside0 (gb256 ≠ gb257) := ⟨h11_⟩
           have n12_ : Aside0 (w.heap.size ≤ gb257) := ⟨h12_⟩
           have n13_ : Aside0 (w.heap.size ≤ gb257) := ⟨h13_⟩
           have n14_ : Aside0 (gb252 ≠ gb257) := ⟨h14_⟩
           have n15_ : Aside0 (gb257 ≠ gb252) := ⟨h15_⟩
           have n16_ : Aside0 (gb253 ≠ gb257) := ⟨h16_⟩
           have n17_ : Aside0 (gb257 ≠ gb253) := ⟨h17_⟩
           have n18_ : Aside0 (Below w.heap.size w w55) := ⟨h18_⟩
           clear BK252
           clear BK253
           clear HB
           clear h0_ h1_ h2_ h3_ h4_ h5_ h6_ h7_ h8_ h9_ h10_ h11_ h12_ h13_ h14_ h15_ h16_ h17_ h18_
           have BK252 := n0_
           have BK253 := n1_
           have BK256 := n2_
           have BK257 := n3_
           have GW256 := n4_
           have GE256 := n5_
           have NB252_256 := n6_
           have NB256_252 := n7_
           have NB253_256 := n8_
           have NB256_253 := n9_
           have NB257_256 := n10_
           have NB256_257 := n11_
           have GW257 := n12_
           have GE257 := n13_
           have NB252_257 := n14_
           have NB257_252 := n15_
           have NB253_257 := n16_
           have NB257_253 := n17_
           have HB := n18_
           clear n0_ n1_ n2_ n3_ n4_ n5_ n6_ n7_ n8_ n9_ n10_ n11_ n12_ n13_ n14_ n15_ n16_ n17_ n18_
           have hHeld : w55.cell? ⟨gb252, 0, none⟩ = some (.int .i64 a0_0) ∧ w55.cell? ⟨gb252, 1, none⟩ = some (.slice (some ad254) l0_1.length c0_1) ∧ w55.cell? ⟨gb252, 2, none⟩ = some (.string a0_2) ∧ w55.cell? ⟨gb253, 0, none⟩ = some (.int .i64 a1_0) ∧ w55.cell? ⟨gb253, 1, none⟩ = some (.slice (some ad255) l1_1.length c1_1) ∧ w55.cell? ⟨gb253, 2, none⟩ = some (.string a1_2) ∧ w55.cell? (ad254.add ((x5_1).toNat * 2)) = some (.string ((rd_T54 l0_1 x5_1).f0)) ∧ w55.cell? ⟨(ad254.add ((x5_1).toNat * 2)).block, (ad254.add ((x5_1).toNat * 2)).off + 1, none⟩ = some (.string ((rd_T54 l0_1 x5_1).f1)) ∧ w55.cell? (ad255.add ((x5_1).toNat * 2)) = some (.string ((rd_T54 l1_1 x5_1).f0)) ∧ w55.cell? ⟨(ad255.add ((x5_1).toNat * 2)).block, (ad255.add ((x5_1).toNat * 2)).off + 1, none⟩ = some (.string ((rd_T54 l1_1 x5_1).f1)) := hS_
           refine norm_ (a' := ?_) ?_ ?_
           rotate_left
           ·simp only [putAll, Act.put, List.setIfInBounds_toArray, List.set_cons_zero, List.set_cons_succ]
            rfl
           refine one_ (i := 12) (N := none) #[true, true, true, true, true, true, true, true, true, true, true, true, true, false] rfl rfl (one_of HT_.out (by kernel_rfl)) (by decide) (fun K hK => ?_)
           have hs56 : w55.cell? ⟨gb256, 0, none⟩ = some (.string (⟨#[]⟩ : ByteArray)) := (blk_cell BK256.out 0).trans rfl
           have hfs56 := blk_frozen BK256.out 0
           have hns56_0 := NB252_256.out
           have hns56_1 := NB253_256.out
           have hns56_3 := NB257_256.out
           have hms56_0 := NB256_252.out
           have hms56_1 := NB256_253.out
           have hms56_3 := NB256_257.out
           have hs57 : w55.cell? ⟨gb256, 1, none⟩ = some (.string (⟨#[]⟩ : ByteArray)) := (blk_cell BK256.out 1).trans rfl
           have hfs57 := blk_frozen BK256.out 1
           have hns57_0 := NB252_256.out
           have hns57_1 := NB253_256.out
           have hns57_3 := NB257_256.out
           have hms57_0 := NB256_252.out
           have hms57_1 := NB256_253.out
           have hms57_3 := NB256_257.out
           refine skip_ (w1 := ?_) (by rfl) rfl ?_ ?_
           rotate_left
           ·go_simp
            rfl
           refine hK.out _ _ ⟨((cell_far (p := ⟨gb256, _, none⟩) NB252_256.out _).trans (((cell_far (p := ⟨gb256, _, none⟩) NB252_256.out _).trans (hHeld.1)))), ((cell_far (p := ⟨gb256, _, none⟩) NB252_256.out _).trans (((cell_far (p := ⟨gb256, _, none⟩) NB252_256.out _).trans (hHeld.2.1)))), ((cell_far (p := ⟨gb256, _, none⟩) NB252_256.out _).trans (((cell_far (p := ⟨gb256, _, none⟩) NB252_256.out _).trans (hHeld.2.2.1)))), ((cell_far (p := ⟨gb256, _, none⟩) NB253_256.out _).trans (((cell_far (p := ⟨gb256, _, none⟩) NB253_256.out _).trans (hHeld.2.2.2.1)))), ((cell_far (p := ⟨gb256, _, none⟩) NB253_256.out _).trans (((cell_far (p := ⟨gb256, _, none⟩) NB253_256.out _).trans (hHeld.2.2.2.2.1)))), ((cell_far (p := ⟨gb256, _, none⟩) NB253_256.out _).trans (((cell_far (p := ⟨gb256, _, none⟩) NB253_256.out _).trans (hHeld.2.2.2.2.2.1)))), ((cell_far (p := ⟨gb256, _, none⟩) (by first | exact Nat.ne_of_lt (Nat.lt_of_lt_of_le (by have := World.block_lt_of_cell? _ _ hw254_0; first | rwa [add_block] at this | exact this) GW256.out) | (rw [add_block]; exact Nat.ne_of_lt (Nat.lt_of_lt_of_le (by have := World.block_lt_of_cell? _ _ hw254_0; first | rwa [add_block] at this | exact this) GW256.out)) | (show (Addr.add _ _).block ≠ _; rw [add_block]; exact Nat.ne_of_lt (Nat.lt_of_lt_of_le (by have := World.block_lt_of_cell? _ _ hw254_0; first | rwa [add_block] at this | exact this) GW256.out)) | (dsimp only; exact Nat.ne_of_lt (Nat.lt_of_lt_of_le (by have := World.block_lt_of_cell? _ _ hw254_0; first | rwa [add_block] at this | exact this) GW256.out))) _).trans (((cell_far (p := ⟨gb256, _, none⟩) (by first | exact Nat.ne_of_lt (Nat.lt_of_lt_of_le (by have := World.block_lt_of_cell? _ _ hw254_0; first | rwa [add_block] at this | exact this) GW256.out) | (rw [add_block]; exact Nat.ne_of_lt (Nat.lt_of_lt_of_le (by have := World.block_lt_of_cell? _ _ hw254_0; first | rwa [add_block] at this | exact this) GW256.out)) | (show (Addr.add _ _).block ≠ _; rw [add_block]; exact Nat.ne_of_lt (Nat.lt_of_lt_of_le (by have := World.block_lt_of_cell? _ _ hw254_0; first | rwa [add_block] at this | exact this) GW256.out)) | (dsimp only; exact Nat.ne_of_lt (Nat.lt_of_lt_of_le (by have := World.block_lt_of_cell? _ _ hw254_0; first | rwa [add_block] at this | exact this) GW256.out))) _).trans (hHeld.2.2.2.2.2.2.1)))), ((cell_far (p := ⟨gb256, _, none⟩) (by first | exact Nat.ne_of_lt (Nat.lt_of_lt_of_le (by have := World.block_lt_of_cell? _ _ hw254_1; first | rwa [add_block] at this | exact this) GW256.out) | (rw [add_block]; exact Nat.ne_of_lt (Nat.lt_of_lt_of_le (by have := World.block_lt_of_cell? _ _ hw254_1; first | rwa [add_block] at this | exact this) GW256.out)) | (show (Addr.add _ _).block ≠ _; rw [add_block]; exact Nat.ne_of_lt (Nat.lt_of_lt_of_le (by have := World.block_lt_of_cell? _ _ hw254_1; first | rwa [add_block] at this | exact this) GW256.out)) | (dsimp only; exact Nat.ne_of_lt (Nat.lt_of_lt_of_le (by have := World.block_lt_of_cell? _ _ hw254_1; first | rwa [add_block] at this | exact this) GW256.out))) _).trans (((cell_far (p := ⟨gb256, _, none⟩) (by first | exact Nat.ne_of_lt (Nat.lt_of_lt_of_le (by have := World.block_lt_of_cell? _ _ hw254_1; first | rwa [add_block] at this | exact this) GW256.out) | (rw [add_block]; exact Nat.ne_of_lt (Nat.lt_of_lt_of_le (by have := World.block_lt_of_cell? _ _ hw254_1; first | rwa [add_block] at this | exact this) GW256.out)) | (show (Addr.add _ _).block ≠ _; rw [add_block]; exact Nat.ne_of_lt (Nat.lt_of_lt_of_le (by have := World.block_lt_of_cell? _ _ hw254_1; first | rwa [add_block] at this | exact this) GW256.out)) | (dsimp only; exact Nat.ne_of_lt (Nat.lt_of_lt_of_le (by have := World.block_lt_of_cell? _ _ hw254_1; first | rwa [add_block] at this | exact this) GW256.out))) _).trans (hHeld.2.2.2.2.2.2.2.1)))), ((cell_far (p := ⟨gb256, _, none⟩) (by first | exact Nat.ne_of_lt (Nat.lt_of_lt_of_le (by have := World.block_lt_of_cell? _ _ hw255_0; first | rwa [add_block] at this | exact this) GW256.out) | (rw [add_block]; exact Nat.ne_of_lt (Nat.lt_of_lt_of_le (by have := World.block_lt_of_cell? _ _ hw255_0; first | rwa [add_block] at this | exact this) GW256.out)) | (show (Addr.add _ _).block ≠ _; rw [add_block]; exact Nat.ne_of_lt (Nat.lt_of_lt_of_le (by have := World.block_lt_of_cell? _ _ hw255_0; first | rwa [add_block] at this | exact this) GW256.out)) | (dsimp only; exact Nat.ne_of_lt (Nat.lt_of_lt_of_le (by have := World.block_lt_of_cell? _ _ hw255_0; first | rwa [add_block] at this | exact this) GW256.out))) _).trans (((cell_far (p := ⟨gb256, _, none⟩) (by first | exact Nat.ne_of_lt (Nat.lt_of_lt_of_le (by have := World.block_lt_of_cell? _ _ hw255_0; first | rwa [add_block] at this | exact this) GW256.out) | (rw [add_block]; exact Nat.ne_of_lt (Nat.lt_of_lt_of_le (by have := World.block_lt_of_cell? _ _ hw255_0; first | rwa [add_block] at this | exact this) GW256.out)) | (show (Addr.add _ _).block ≠ _; rw [add_block]; exact Nat.ne_of_lt (Nat.lt_of_lt_of_le (by have := World.block_lt_of_cell? _ _ hw255_0; first | rwa [add_block] at this | exact this) GW256.out)) | (dsimp only; exact Nat.ne_of_lt (Nat.lt_of_lt_of_le (by have := World.block_lt_of_cell? _ _ hw255_0; first | rwa [add_block] at this | exact this) GW256.out))) _).trans (hHeld.2.2.2.2.2.2.2.2.1)))), ((cell_far (p := ⟨gb256, _, none⟩) (by first | exact Nat.ne_of_lt (Nat.lt_of_lt_of_le (by have := World.block_lt_of_cell? _ _ hw255_1; first | rwa [add_block] at this | exact this) GW256.out) | (rw [add_block]; exact Nat.ne_of_lt (Nat.lt_of_lt_of_le (by have := World.block_lt_of_cell? _ _ hw255_1; first | rwa [add_block] at this | exact this) GW256.out)) | (show (Addr.add _ _).block ≠ _; rw [add_block]; exact Nat.ne_of_lt (Nat.lt_of_lt_of_le (by have := World.block_lt_of_cell? _ _ hw255_1; first | rwa [add_block] at this | exact this) GW256.out)) | (dsimp only; exact Nat.ne_of_lt (Nat.lt_of_lt_of_le (by have := World.block_lt_of_cell? _ _ hw255_1; first | rwa [add_block] at this | exact this) GW256.out))) _).trans (((cell_far (p := ⟨gb256, _, none⟩) (by first | exact Nat.ne_of_lt (Nat.lt_of_lt_of_le (by have := World.block_lt_of_cell? _ _ hw255_1; first | rwa [add_block] at this | exact this) GW256.out) | (rw [add_block]; exact Nat.ne_of_lt (Nat.lt_of_lt_of_le (by have := World.block_lt_of_cell? _ _ hw255_1; first | rwa [add_block] at this | exact this) GW256.out)) | (show (Addr.add _ _).block ≠ _; rw [add_block]; exact Nat.ne_of_lt (Nat.lt_of_lt_of_le (by have := World.block_lt_of_cell? _ _ hw255_1; first | rwa [add_block] at this | exact this) GW256.out)) | (dsimp only; exact Nat.ne_of_lt (Nat.lt_of_lt_of_le (by have := World.block_lt_of_cell? _ _ hw255_1; first | rwa [add_block] at this | exact this) GW256.out))) _).trans (hHeld.2.2.2.2.2.2.2.2.2))))⟩ (fun hHeld => ?_)
           clear hK K
           refine one_ (i := 13) (N := none) #[true, true, true, true, true, true, true, true, true, true, true, true, true, true] rfl rfl (one_of HT_.out (by kernel_rfl)) (by decide) (fun K hK => ?_)
           have hs58 : w55.cell? ⟨gb257, 0, none⟩ = some (.string (⟨#[]⟩ : ByteArray)) := (blk_cell BK257.out 0).trans rfl
           have hfs58 := blk_frozen BK257.out 0
           have hns58_0 := NB252_257.out
           have hns58_1 := NB253_257.out
           have hns58_2 := NB256_257.out
           have hms58_0 := NB257_252.out
           have hms58_1 := NB257_253.out
           have hms58_2 := NB257_256.out
           have hs59 : w55.cell? ⟨gb257, 1, none⟩ = some (.string (⟨#[]⟩ : ByteArray)) := (blk_cell BK257.out 1).trans rfl
           have hfs59 := blk_frozen BK257.out 1
           have hns59_0 := NB252_257.out
           have hns59_1 := NB253_257.out
           have hns59_2 := NB256_257.out
           have hms59_0 := NB257_252.out
           have hms59_1 := NB257_253.out
           have hms59_2 := NB257_256.out
           refine skip_ (w1 := ?_) (by rfl) rfl ?_ ?_
           rotate_left
           ·go_simp
            rfl
           refine hK.out _ _ ⟨((cell_far (p := ⟨gb257, _, none⟩) NB252_257.out _).trans (((cell_far (p := ⟨gb257, _, none⟩) NB252_257.out _).trans (hHeld.1)))), ((cell_far (p := ⟨gb257, _, none⟩) NB252_257.out _).trans (((cell_far (p := ⟨gb257, _, none⟩) NB252_257.out _).trans (hHeld.2.1)))), ((cell_far (p := ⟨gb257, _, none⟩) NB252_257.out _).trans (((cell_far (p := ⟨gb257, _, none⟩) NB252_257.out _).trans (hHeld.2.2.1)))), ((cell_far (p := ⟨gb257, _, none⟩) NB253_257.out _).trans (((cell_far (p := ⟨gb257, _, none⟩) NB253_257.out _).trans (hHeld.2.2.2.1)))), ((cell_far (p := ⟨gb257, _, none⟩) NB253_257.out _).trans (((cell_far (p := ⟨gb257, _, none⟩) NB253_257.out _).trans (hHeld.2.2.2.2.1)))), ((cell_far (p := ⟨gb257, _, none⟩) NB253_257.out _).trans (((cell_far (p := ⟨gb257, _, none⟩) NB253_257.out _).trans (hHeld.2.2.2.2.2.1)))), ((cell_far (p := ⟨gb257, _, none⟩) (by first | exact Nat.ne_of_lt (Nat.lt_of_lt_of_le (by have := World.block_lt_of_cell? _ _ hw254_0; first | rwa [add_block] at this | exact this) GW257.out) | (rw [add_block]; exact Nat.ne_of_lt (Nat.lt_of_lt_of_le (by have := World.block_lt_of_cell? _ _ hw254_0; first | rwa [add_block] at this | exact this) GW257.out)) | (show (Addr.add _ _).block ≠ _; rw [add_block]; exact Nat.ne_of_lt (Nat.lt_of_lt_of_le (by have := World.block_lt_of_cell? _ _ hw254_0; first | rwa [add_block] at this | exact this) GW257.out)) | (dsimp only; exact Nat.ne_of_lt (Nat.lt_of_lt_of_le (by have := World.block_lt_of_cell? _ _ hw254_0; first | rwa [add_block] at this | exact this) GW257.out))) _).trans (((cell_far (p := ⟨gb257, _, none⟩) (by first | exact Nat.ne_of_lt (Nat.lt_of_lt_of_le (by have := World.block_lt_of_cell? _ _ hw254_0; first | rwa [add_block] at this | exact this) GW257.out) | (rw [add_block]; exact Nat.ne_of_lt (Nat.lt_of_lt_of_le (by have := World.block_lt_of_cell? _ _ hw254_0; first | rwa [add_block] at this | exact this) GW257.out)) | (show (Addr.add _ _).block ≠ _; rw [add_block]; exact Nat.ne_of_lt (Nat.lt_of_lt_of_le (by have := World.block_lt_of_cell? _ _ hw254_0; first | rwa [add_block] at this | exact this) GW257.out)) | (dsimp only; exact Nat.ne_of_lt (Nat.lt_of_lt_of_le (by have := World.block_lt_of_cell? _ _ hw254_0; first | rwa [add_block] at this | exact this) GW257.out))) _).trans (hHeld.2.2.2.2.2.2.1)))), ((cell_far (p := ⟨gb257, _, none⟩) (by first | exact Nat.ne_of_lt (Nat.lt_of_lt_of_le (by have := World.block_lt_of_cell? _ _ hw254_1; first | rwa [add_block] at this | exact this) GW257.out) | (rw [add_block]; exact Nat.ne_of_lt (Nat.lt_of_lt_of_le (by have := World.block_lt_of_cell? _ _ hw254_1; first | rwa [add_block] at this | exact this) GW257.out)) | (show (Addr.add _ _).block ≠ _; rw [add_block]; exact Nat.ne_of_lt (Nat.lt_of_lt_of_le (by have := World.block_lt_of_cell? _ _ hw254_1; first | rwa [add_block] at this | exact this) GW257.out)) | (dsimp only; exact Nat.ne_of_lt (Nat.lt_of_lt_of_le (by have := World.block_lt_of_cell? _ _ hw254_1; first | rwa [add_block] at this | exact this) GW257.out))) _).trans (((cell_far (p := ⟨gb257, _, none⟩) (by first | exact Nat.ne_of_lt (Nat.lt_of_lt_of_le (by have := World.block_lt_of_cell? _ _ hw254_1; first | rwa [add_block] at this | exact this) GW257.out) | (rw [add_block]; exact Nat.ne_of_lt (Nat.lt_of_lt_of_le (by have := World.block_lt_of_cell? _ _ hw254_1; first | rwa [add_block] at this | exact this) GW257.out)) | (show (Addr.add _ _).block ≠ _; rw [add_block]; exact Nat.ne_of_lt (Nat.lt_of_lt_of_le (by have := World.block_lt_of_cell? _ _ hw254_1; first | rwa [add_block] at this | exact this) GW257.out)) | (dsimp only; exact Nat.ne_of_lt (Nat.lt_of_lt_of_le (by have := World.block_lt_of_cell? _ _ hw254_1; first | rwa [add_block] at this | exact this) GW257.out))) _).trans (hHeld.2.2.2.2.2.2.2.1)))), ((cell_far (p := ⟨gb257, _, none⟩) (by first | exact Nat.ne_of_lt (Nat.lt_of_lt_of_le (by have := World.block_lt_of_cell? _ _ hw255_0; first | rwa [add_block] at this | exact this) GW257.out) | (rw [add_block]; exact Nat.ne_of_lt (Nat.lt_of_lt_of_le (by have := World.block_lt_of_cell? _ _ hw255_0; first | rwa [add_block] at this | exact this) GW257.out)) | (show (Addr.add _ _).block ≠ _; rw [add_block]; exact Nat.ne_of_lt (Nat.lt_of_lt_of_le (by have := World.block_lt_of_cell? _ _ hw255_0; first | rwa [add_block] at this | exact this) GW257.out)) | (dsimp only; exact Nat.ne_of_lt (Nat.lt_of_lt_of_le (by have := World.block_lt_of_cell? _ _ hw255_0; first | rwa [add_block] at this | exact this) GW257.out))) _).trans (((cell_far (p := ⟨gb257, _, none⟩) (by first | exact Nat.ne_of_lt (Nat.lt_of_lt_of_le (by have := World.block_lt_of_cell? _ _ hw255_0; first | rwa [add_block] at this | exact this) GW257.out) | (rw [add_block]; exact Nat.ne_of_lt (Nat.lt_of_lt_of_le (by have := World.block_lt_of_cell? _ _ hw255_0; first | rwa [add_block] at this | exact this) GW257.out)) | (show (Addr.add _ _).block ≠ _; rw [add_block]; exact Nat.ne_of_lt (Nat.lt_of_lt_of_le (by have := World.block_lt_of_cell? _ _ hw255_0; first | rwa [add_block] at this | exact this) GW257.out)) | (dsimp only; exact Nat.ne_of_lt (Nat.lt_of_lt_of_le (by have := World.block_lt_of_cell? _ _ hw255_0; first | rwa [add_block] at this | exact this) GW257.out))) _).trans (hHeld.2.2.2.2.2.2.2.2.1)))), ((cell_far (p := ⟨gb257, _, none⟩) (by first | exact Nat.ne_of_lt (Nat.lt_of_lt_of_le (by have := World.block_lt_of_cell? _ _ hw255_1; first | rwa [add_block] at this | exact this) GW257.out) | (rw [add_block]; exact Nat.ne_of_lt (Nat.lt_of_lt_of_le (by have := World.block_lt_of_cell? _ _ hw255_1; first | rwa [add_block] at this | exact this) GW257.out)) | (show (Addr.add _ _).block ≠ _; rw [add_block]; exact Nat.ne_of_lt (Nat.lt_of_lt_of_le (by have := World.block_lt_of_cell? _ _ hw255_1; first | rwa [add_block] at this | exact this) GW257.out)) | (dsimp only; exact Nat.ne_of_lt (Nat.lt_of_lt_of_le (by have := World.block_lt_of_cell? _ _ hw255_1; first | rwa [add_block] at this | exact this) GW257.out))) _).trans (((cell_far (p := ⟨gb257, _, none⟩) (by first | exact Nat.ne_of_lt (Nat.lt_of_lt_of_le (by have := World.block_lt_of_cell? _ _ hw255_1; first | rwa [add_block] at this | exact this) GW257.out) | (rw [add_block]; exact Nat.ne_of_lt (Nat.lt_of_lt_of_le (by have := World.block_lt_of_cell? _ _ hw255_1; first | rwa [add_block] at this | exact this) GW257.out)) | (show (Addr.add _ _).block ≠ _; rw [add_block]; exact Nat.ne_of_lt (Nat.lt_of_lt_of_le (by have := World.block_lt_of_cell? _ _ hw255_1; first | rwa [add_block] at this | exact this) GW257.out)) | (dsimp only; exact Nat.ne_of_lt (Nat.lt_of_lt_of_le (by have := World.block_lt_of_cell? _ _ hw255_1; first | rwa [add_block] at this | exact this) GW257.out))) _).trans (hHeld.2.2.2.2.2.2.2.2.2))))⟩ (fun hHeld => ?_)
           clear hK K
           refine done_ (done_of HT_.out (by kernel_rfl)) ?_
           have hnb60 := NB256_252.out
           have hnc60 := NB252_256.out
           have hnb61 := NB256_253.out
           have hnc61 := NB253_256.out
           have hnb62 := NB256_257.out
           have hnc62 := NB257_256.out
           have hcz63_0 : w55.cell? ⟨gb256, 0, none⟩ = some (.string (⟨#[]⟩ : ByteArray)) := (blk_cell BK256.out 0).trans rfl
           have hcz63_1 : w55.cell? ⟨gb256, 1, none⟩ = some (.string (⟨#[]⟩ : ByteArray)) := (blk_cell BK256.out 1).trans rfl
           have hfz63_0 := blk_frozen BK256.out 0
           have hfz63_1 := blk_frozen BK256.out 1
           have hnb64 := NB257_252.out
           have hnc64 := NB252_257.out
           have hnb65 := NB257_253.out
           have hnc65 := NB253_257.out
           have hcz66_0 : w55.cell? ⟨gb257, 0, none⟩ = some (.string (⟨#[]⟩ : ByteArray)) := (blk_cell BK257.out 0).trans rfl
           have hcz66_1 : w55.cell? ⟨gb257, 1, none⟩ = some (.string (⟨#[]⟩ : ByteArray)) := (blk_cell BK257.out 1).trans rfl
           have hfz66_0 := blk_frozen BK257.out 0
           have hfz66_1 := blk_frozen BK257.out 1
           try go_wp2
           go_ret
           exact ⟨by first | rfl | (simp [errW_none, errW_some] <;> rfl) | (simp [*, errW_none, errW_some] <;> rfl), by repeat (first | (with_reducible first | exact HB.out | apply below_alloc | apply pw_below_drewN | apply below_drew1 | refine below_set ?_ GE252.out | refine below_set ?_ GE253.out | refine below_set ?_ GE256.out | refine below_set ?_ GE257.out) | exact HB.out)⟩
         ·rw [if_neg c19] at H
          exact absurd H (by simp)
        ·rw [if_neg c18] at H
         exact absurd H (by simp)
       ·rw [if_neg c17] at H
        exact absurd H (by simp)
      ·replace c16 := Bool.eq_false_iff.mpr c16
       subst c16
       have H1 : (if (l0_1.length : Int) = (l1_1.length : Int) then (some (Op.bytesLess a0_2.toList a1_2.toList)) else (some (decide ((l0_1.length : Int) < (l1_1.length : Int))))) = some r := by rw [if_neg (show ¬ (false = true) by decide)] at H; exact H
       clear H
       have H := H1
       clear H1
       by_cases c67 : (l0_1.length : Int) = (l1_1.length : Int)
       ·rw [if_pos c67] at H
        have c67b0 : ((l0_1.length : Int) == (l1_1.length : Int)) = true := beq_iff_eq.mpr c67
        have c67b1 : ((l0_1.length : Int) != (l1_1.length : Int)) = false := bne_eq_false_iff_eq.mpr c67
        have c67b2 : (l0_1.length == l1_1.length) = true := by first | simpa using c67 | (simp at c67 ⊢; omega)
        clear c67
        obtain rfl := Option.some.inj H
        have hnb68 := NB252_253.out
        have hnc68 := NB253_252.out
        have hcz69_0 : wc.cell? ⟨gb252, 0, none⟩ = some (.int .i64 a0_0) := (blk_cell BK252.out 0).trans rfl
        have hcz69_1 : wc.cell? ⟨gb252, 1, none⟩ = some (.slice A0_1 l0_1.length c0_1) := (blk_cell BK252.out 1).trans rfl
        have hcz69_2 : wc.cell? ⟨gb252, 2, none⟩ = some (.string a0_2) := (blk_cell BK252.out 2).trans rfl
        have hfz69_0 := blk_frozen BK252.out 0
        have hfz69_1 := blk_frozen BK252.out 1
        have hfz69_2 := blk_frozen BK252.out 2
        have hcz70_0 : wc.cell? ⟨gb253, 0, none⟩ = some (.int .i64 a1_0) := (blk_cell BK253.out 0).trans rfl
        have hcz70_1 : wc.cell? ⟨gb253, 1, none⟩ = some (.slice A1_1 l1_1.length c1_1) := (blk_cell BK253.out 1).trans rfl
        have hcz70_2 : wc.cell? ⟨gb253, 2, none⟩ = some (.string a1_2) := (blk_cell BK253.out 2).trans rfl
        have hfz70_0 := blk_frozen BK253.out 0
        have hfz70_1 := blk_frozen BK253.out 1
        have hfz70_2 := blk_frozen BK253.out 2
        go_wp2
        go_ret
        exact ⟨by first | rfl | (simp [errW_none, errW_some] <;> rfl) | (simp [*, errW_none, errW_some] <;> rfl), by repeat (first | (with_reducible first | exact HB.out | apply below_alloc | apply pw_below_drewN | apply below_drew1 | refine below_set ?_ GE252.out | refine below_set ?_ GE253.out) | exact HB.out)⟩
       ·rw [if_neg c67] at H
        have c67b0 : ((l0_1.length : Int) == (l1_1.length : Int)) = false := beq_eq_false_iff_ne.mpr c67
        have c67b1 : ((l0_1.length : Int) != (l1_1.length : Int)) = true := bne_iff_ne.mpr c67
        have c67b2 : (l0_1.length == l1_1.length) = false := by first | simpa using c67 | (simp at c67 ⊢; omega)
        obtain rfl := Option.some.inj H
        have hnb71 := NB252_253.out
        have hnc71 := NB253_252.out
        have hcz72_0 : wc.cell? ⟨gb252, 0, none⟩ = some (.int .i64 a0_0) := (blk_cell BK252.out 0).trans rfl
        have hcz72_1 : wc.cell? ⟨gb252, 1, none⟩ = some (.slice A0_1 l0_1.length c0_1) := (blk_cell BK252.out 1).trans rfl
        have hcz72_2 : wc.cell? ⟨gb252, 2, none⟩ = some (.string a0_2) := (blk_cell BK252.out 2).trans rfl
        have hfz72_0 := blk_frozen BK252.out 0
        have hfz72_1 := blk_frozen BK252.out 1
        have hfz72_2 := blk_frozen BK252.out 2
        have hcz73_0 : wc.cell? ⟨gb253, 0, none⟩ = some (.int .i64 a1_0) := (blk_cell BK253.out 0).trans rfl
        have hcz73_1 : wc.cell? ⟨gb253, 1, none⟩ = some (.slice A1_1 l1_1.length c1_1) := (blk_cell BK253.out 1).trans rfl
        have hcz73_2 : wc.cell? ⟨gb253, 2, none⟩ = some (.string a1_2) := (blk_cell BK253.out 2).trans rfl
        have hfz73_0 := blk_frozen BK253.out 0
        have hfz73_1 := blk_frozen BK253.out 1
        have hfz73_2 := blk_frozen BK253.out 2
        go_wp2
        go_ret
        exact ⟨by first | rfl | (simp [errW_none, errW_some] <;> rfl) | (simp [*, errW_none, errW_some] <;> rfl), by repeat (first | (with_reducible first | exact HB.out | apply below_alloc | apply pw_below_drewN | apply below_drew1 | refine below_set ?_ GE252.out | refine below_set ?_ GE253.out) | exact HB.out)⟩
 ·rw [if_neg c3] at H
  have c3b0 : (a0_0 == a1_0) = false := beq_eq_false_iff_ne.mpr c3
  have c3b1 : (a0_0 != a1_0) = true := bne_iff_ne.mpr c3
  obtain rfl := Option.some.inj H
  go_enter Tryz.func33, Tryz.ntmps33
  go_wp2_with (first | ((with_reducible refine gate_dst (N := 2) rfl ?_); (try (refine gate_guard (by rfl) ?_; dsimp only)); refine box_event ?hg (N := 2) ?hd (cs := #[.int .i64 a0_0, .slice A0_1 l0_1.length c0_1, .string a0_2]) (t := 26) ?hr ?_; (case hd => rfl); (case hg => rfl); (case hr => first | (go_simp; done) | (go_simp; rfl)); intro gb252 hg w74 hbox hb; have n0_ := Aside0.mk (below_step (by repeat (first | (with_reducible first | exact HB.out | apply below_alloc | apply pw_below_drewN | apply below_drew1) | exact HB.out)) hb); have n1_ := Aside0.mk (hbox); have n2_ := Aside0.mk ((by rw [hg]; exact (below_size (by repeat (first | (with_reducible first | exact HB.out | apply below_alloc | apply pw_below_drewN | apply below_drew1) | exact HB.out))) : w.heap.size ≤ gb252)); have n3_ := Aside0.mk ((by rw [hg]; exact (below_size (by repeat (first | (with_reducible first | exact HB.out | apply below_alloc | apply pw_below_drewN | apply below_drew1) | exact HB.out))) : w.heap.size ≤ gb252)); clear HB; have HB := n0_; have BK252 := n1_; have GW252 := n2_; have GE252 := n3_; clear n0_ n1_ n2_ n3_; clear hb hbox hg) | ((with_reducible refine gate_dst (N := 3) rfl ?_); (try (refine gate_guard (by rfl) ?_; dsimp only)); refine box_event ?hg (N := 3) ?hd (cs := #[.int .i64 a1_0, .slice A1_1 l1_1.length c1_1, .string a1_2]) (t := 26) ?hr ?_; (case hd => rfl); (case hg => rfl); (case hr => first | (go_simp; done) | (go_simp; rfl)); intro gb253 hg w75 hbox hb; have n0_ := Aside0.mk (blk_below (g := gb252) (o := .cells #[.int .i64 a0_0, .slice A0_1 l0_1.length c0_1, .string a0_2] 26 (0, 0)) (by (with_reducible repeat (first | refine blk_drewN ?_ _ | refine blk_drew ?_ | refine blk_alloc ?_ _)); exact BK252.out) hb); have n1_ := Aside0.mk (below_step (by repeat (first | (with_reducible first | exact HB.out | apply below_alloc | apply pw_below_drewN | apply below_drew1 | refine below_set ?_ GE252.out) | exact HB.out)) hb); have n2_ := Aside0.mk (hbox); have n3_ := Aside0.mk ((by rw [hg]; exact (below_size (by repeat (first | (with_reducible first | exact HB.out | apply below_alloc | apply pw_below_drewN | apply below_drew1 | refine below_set ?_ GE252.out) | exact HB.out))) : w.heap.size ≤ gb253)); have n4_ := Aside0.mk ((by rw [hg]; exact (below_size (by repeat (first | (with_reducible first | exact HB.out | apply below_alloc | apply pw_below_drewN | apply below_drew1 | refine below_set ?_ GE252.out) | exact HB.out))) : w.heap.size ≤ gb253)); have n5_ := Aside0.mk ((by rw [hg]; exact Nat.ne_of_lt (blk_lt (g := gb252) (o := .cells #[.int .i64 a0_0, .slice A0_1 l0_1.length c0_1, .string a0_2] 26 (0, 0)) (by (with_reducible repeat (first | refine blk_drewN ?_ _ | refine blk_drew ?_ | refine blk_alloc ?_ _)); exact BK252.out)) : gb252 ≠ gb253)); have n6_ := Aside0.mk ((by rw [hg]; exact Nat.ne_of_gt (blk_lt (g := gb252) (o := .cells #[.int .i64 a0_0, .slice A0_1 l0_1.length c0_1, .string a0_2] 26 (0, 0)) (by (with_reducible repeat (first | refine blk_drewN ?_ _ | refine blk_drew ?_ | refine blk_alloc ?_ _)); exact BK252.out)) : gb253 ≠ gb252)); clear BK252; clear HB; have BK252 := n0_; have HB := n1_; have BK253 := n2_; have GW253 := n3_; have GE253 := n4_; have NB252_253 := n5_; have NB253_252 := n6_; clear n0_ n1_ n2_ n3_ n4_ n5_ n6_; clear hb hbox hg; have hnb76 := NB252_253.out; have hnc76 := NB253_252.out; have hcz77_0 : w75.cell? ⟨gb252, 0, none⟩ = some (.int .i64 a0_0) := (blk_cell BK252.out 0).trans rfl; have hcz77_1 : w75.cell? ⟨gb252, 1, none⟩ = some (.slice A0_1 l0_1.length c0_1) := (blk_cell BK252.out 1).trans rfl; have hcz77_2 : w75.cell? ⟨gb252, 2, none⟩ = some (.string a0_2) := (blk_cell BK252.out 2).trans rfl; have hfz77_0 := blk_frozen BK252.out 0; have hfz77_1 := blk_frozen BK252.out 1; have hfz77_2 := blk_frozen BK252.out 2; have hcz78_0 : w75.cell? ⟨gb253, 0, none⟩ = some (.int .i64 a1_0) := (blk_cell BK253.out 0).trans rfl; have hcz78_1 : w75.cell? ⟨gb253, 1, none⟩ = some (.slice A1_1 l1_1.length c1_1) := (blk_cell BK253.out 1).trans rfl; have hcz78_2 : w75.cell? ⟨gb253, 2, none⟩ = some (.string a1_2) := (blk_cell BK253.out 2).trans rfl; have hfz78_0 := blk_frozen BK253.out 0; have hfz78_1 := blk_frozen BK253.out 1; have hfz78_2 := blk_frozen BK253.out 2))
  go_ret
  exact ⟨by first | rfl | (simp [errW_none, errW_some] <;> rfl) | (simp [*, errW_none, errW_some] <;> rfl), by repeat (first | (with_reducible first | exact HB.out | apply below_alloc | apply pw_below_drewN | apply below_drew1 | refine below_set ?_ GE252.out | refine below_set ?_ GE253.out) | exact HB.out)⟩
end Go.Proofs.YtpleiklodomgiaaGreatDoor.PModelIs
end
